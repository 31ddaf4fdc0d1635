/- The laws of a rig's parts and mouths. -/
import Derived.Test.YtknkkaimbhojpaaOD
set_option linter.all false
set_option linter.unusedVariables false
set_option linter.unusedSimpArgs false
open Go Go.Abs Go.Proofs
set_option linter.unusedSimpArgs false
set_option linter.unusedVariables false
namespace Go.Proofs.Ytknkkaimbhojpaa
abbrev Part := Int × Int × Int × List Int × List Mo × Int × Int
abbrev Lead := Int × Int × Int × Int × List (Int × Int × Int)
abbrev Rig := List Part × List Lead
abbrev p0 : Part := (0, 0, 0, [], [], 0, 0)
abbrev m0 : Mo := (0, 0, 0, false)
abbrev l0 : Lead := (0, 0, 0, 0, [])
def organOf (p : Part) : Organ := (p.1, p.2.1, p.2.2.1, p.2.2.2.1, p.2.2.2.2.1)
def mos (p : Part) : List Mo := p.2.2.2.2.1
def partAt (ps : List Part) (i : Int) : Part := nth p0 ps i.toNat
def moAt (ps : List Part) (i k : Int) : Mo := nth m0 (mos (partAt ps i)) k.toNat
def hasMo (ps : List Part) (i k : Int) : Bool := decide (0 ≤ i ∧ i < ps.length ∧ 0 ≤ k ∧ k < (mos (partAt ps i)).length)
/-- What a rig that comes in is sure to be. -/
def rigOk : Rig → Bool := fun (ps, ls) => decide (ps.length < 9223372036854775807 ∧ ls.length < 9223372036854775807) && (ps.all (fun p => organOk (organOf p)) && ls.all fun l => decide (l.2.2.2.2.length < 9223372036854775807))
theorem all_nth {α : Type} (d : α) {f : α → Bool} {l : List α} (h : l.all f = true) {i : Nat} (hi : i < l.length) : f (nth d l i) = true := by
  rw [nth_lt _ _ _ hi]; exact List.all_eq_true.1 h _ (List.getElem_mem hi)
def partOk (k0 : Int) (p : Part) : Bool := decide (0 ≤ p.2.2.2.2.2.1 ∧ p.2.2.2.2.2.1 < 24 ∧ 0 ≤ p.2.2.2.2.2.2 ∧ p.2.2.2.2.2.2 < 24) && (decide (organM (organOf p) = 0) && decide (p.1 = k0))
def partsB (ps : List Part) : Bool := decide (1 ≤ ps.length ∧ ps.length ≤ 16) && ps.all (partOk (nth p0 ps 0).1)
def partsOk : Rig → Bool := rigOk
def rPartsOk : Rig → Bool := rigOk
def partsM : Rig → Int := fun (ps, _) => bif partsB ps then 0 else 50
def rPartsM : Rig → Bool := fun (ps, _) => partsB ps
def partsFu : Rig → Nat := fun (ps, _) => ps.length + 1
def rPartsFu : Rig → Nat := fun (ps, _) => ps.length + 1
theorem parts_L0_spec (F : Nat) (ps : List Part) (ls : List Lead) (hx : ps.length < 9223372036854775807) (h0 : 0 < ps.length) (ho : ps.all (fun p => organOk (organOf p)) = true) : ∀ (k f i : Nat), i + k = ps.length → k < f →
    parts_L0 F f ps ps.length i ps ls = ⟨true, .int .i64 (bif (ps.drop i).all (partOk (nth p0 ps 0).1) then 0 else 50), []⟩
  | k, 0, i, _, h => by omega
  | 0, f + 1, i, hi, _ => by
    rw [parts_L0_succ, ltF (by omega), drop_len ps (by omega)]; rfl
  | k + 1, f + 1, i, hi, hf => by
    have ih := parts_L0_spec F ps ls hx h0 ho k f (i + 1) (by omega) (by omega)
    have hil : i < ps.length := by omega
    have hok := all_nth p0 ho hil
    rw [parts_L0_succ, ltT hil, nnT, drop_nth p0 ps hil, Int.toNat_natCast, wrapS (show i < 9223372036854775807 by omega), ih, show decide (0 < (ps.length : Int)) = true from decide_eq_true (by omega)]
    generalize nth p0 ps i = p at *
    generalize (nth p0 ps 0).1 = k0
    obtain ⟨kind, w, h, cells, ms, px, py⟩ := p
    simp only [organOf] at hok
    simp only [List.all_cons, partOk, organOf, oVOk, oVM, hok, Bool.and_self, cond_true, beq_ne]
    by_cases c1 : px < 0
    · simp [c1, show ¬ 0 ≤ px by omega]
    by_cases c2 : px ≥ 24
    · simp [c1, c2, show ¬ px < 24 by omega]
    by_cases c3 : py < 0
    · simp [c1, c2, c3, show ¬ 0 ≤ py by omega]
    by_cases c4 : py ≥ 24
    · simp [c1, c2, c3, c4, show ¬ py < 24 by omega]
    have d : 0 ≤ px ∧ px < 24 ∧ 0 ≤ py ∧ py < 24 := by omega
    simp only [c1, c2, c3, c4, d, decide_true, decide_false, cond_false, and_self, Bool.true_and]
    by_cases c5 : organM (kind, w, h, cells, ms) = 0
    · simp only [c5, decide_true, Bool.not_true, cond_false, Bool.true_and]
      by_cases c6 : kind = k0
      · simp only [c6, decide_true, Bool.not_true, cond_false, Bool.true_and]
      · simp only [c6, decide_false, Bool.not_false, cond_true, Bool.false_and, cond_false]
    · simp only [c5, decide_false, Bool.not_false, cond_true, Bool.false_and, cond_false]
theorem rParts_L0_spec (F : Nat) (ps : List Part) (ls : List Lead) (hx : ps.length < 9223372036854775807) (h0 : 0 < ps.length) (ho : ps.all (fun p => organOk (organOf p)) = true) : ∀ (k f i : Nat), i + k = ps.length → k < f →
    rParts_L0 F f i ps ls = ⟨true, .bool ((ps.drop i).all (partOk (nth p0 ps 0).1)), []⟩
  | k, 0, i, _, h => by omega
  | 0, f + 1, i, hi, _ => by
    rw [rParts_L0_succ, ltF (by omega), drop_len ps (by omega)]; rfl
  | k + 1, f + 1, i, hi, hf => by
    have ih := rParts_L0_spec F ps ls hx h0 ho k f (i + 1) (by omega) (by omega)
    have hil : i < ps.length := by omega
    have hok := all_nth p0 ho hil
    rw [rParts_L0_succ, ltT hil, nnT, drop_nth p0 ps hil, Int.toNat_natCast, wrapS (show i < 9223372036854775807 by omega), ih, show decide (0 < (ps.length : Int)) = true from decide_eq_true (by omega)]
    generalize nth p0 ps i = p at *
    generalize (nth p0 ps 0).1 = k0
    obtain ⟨kind, w, h, cells, ms, px, py⟩ := p
    simp only [organOf] at hok
    simp only [List.all_cons, partOk, organOf, rVOk, rVM, hok, Bool.and_self, cond_true, beq_ne]
    by_cases c1 : px < 0
    · simp [c1, show ¬ 0 ≤ px by omega]
    by_cases c3 : py < 0
    · simp [c1, c3, show ¬ 0 ≤ py by omega]
    by_cases c2 : px ≥ 24
    · simp [c1, c2, c3, show ¬ px < 24 by omega]
    by_cases c4 : py ≥ 24
    · simp [c1, c2, c3, c4, show ¬ py < 24 by omega]
    have d : 0 ≤ px ∧ px < 24 ∧ 0 ≤ py ∧ py < 24 := by omega
    simp only [c1, c2, c3, c4, d, decide_true, decide_false, cond_false, and_self, Bool.true_and]
    by_cases c5 : organM (kind, w, h, cells, ms) = 0
    · simp only [c5, decide_true, Bool.not_true, cond_false, Bool.true_and]
      by_cases c6 : kind = k0
      · simp only [c6, decide_true, Bool.not_true, cond_false, Bool.true_and]
      · simp only [c6, decide_false, Bool.not_false, cond_true, Bool.false_and, cond_false]
    · simp only [c5, decide_false, Bool.not_false, cond_true, Bool.false_and, cond_false]
theorem parts_ret (z : Rig) (hk : partsOk z = true) : Ret parts_re parts_R (parts_run (partsFu z) z) (partsM z) := by
  obtain ⟨ps, ls⟩ := z
  simp only [partsOk, rigOk, Bool.and_eq_true, decide_eq_true_eq] at hk
  refine Ret.of ((parts_arg ..).trans ((parts_eq ..).trans ?_)) (Ret.int _ _)
  rw [show partsFu (ps, ls) = ps.length + 1 from rfl]
  simp only [partsM, partsB]
  by_cases c0 : ps.length = 0
  · simp [c0]
  · have a := parts_L0_spec (ps.length + 1) ps ls hk.1.1 (by omega) hk.2.1 ps.length (ps.length + 1) 0 (by omega) (by omega)
    rw [List.drop_zero] at a
    rw [show (0 : Int) = ((0 : Nat) : Int) from rfl, a]
    by_cases c1 : ps.length ≤ 16
    · simp [c0, c1, show ¬ (ps.length : Int) > 16 by omega, show 1 ≤ ps.length by omega]
    · simp [c0, c1, show (ps.length : Int) > 16 by omega]
theorem rParts_ret (z : Rig) (hk : rPartsOk z = true) : Ret rParts_re rParts_R (rParts_run (rPartsFu z) z) (rPartsM z) := by
  obtain ⟨ps, ls⟩ := z
  simp only [rPartsOk, rigOk, Bool.and_eq_true, decide_eq_true_eq] at hk
  refine Ret.of ((rParts_arg ..).trans ((rParts_eq ..).trans ?_)) (Ret.bool _)
  rw [show rPartsFu (ps, ls) = ps.length + 1 from rfl]
  simp only [rPartsM, partsB]
  by_cases c0 : ps.length = 0
  · simp [c0]
  · have a := rParts_L0_spec (ps.length + 1) ps ls hk.1.1 (by omega) hk.2.1 ps.length (ps.length + 1) 0 (by omega) (by omega)
    rw [List.drop_zero] at a
    rw [show (0 : Int) = ((0 : Nat) : Int) from rfl, a]
    by_cases c1 : ps.length ≤ 16
    · simp [c0, c1, show ¬ (ps.length : Int) > 16 by omega, show 1 ≤ ps.length by omega]
    · simp [c0, c1, show (ps.length : Int) > 16 by omega]
/-! ### mouths -/
theorem Ret.moB (a b c : Int) (d e : Bool) : Ret [some 4, none] (.pair (.int .i64) (.pair (.int .i64) (.pair (.int .i64) (.pair .bool .bool)))) ⟨true, .tup [.agg [.int .i64 a, .int .i64 b, .int .i64 c, .bool d], .bool e], []⟩ (a, b, c, d, e) :=
  ⟨rfl, rfl, rfl, rfl, by simp [roVs, valsOf, view, view1, flatA, cellsA, decOk, nth, isInt, isB, dropL, width], rfl, fun ws h => by cases h; simp⟩
abbrev RigMo := List Part × List Lead × Int × Int × Bool
def mouthOfM : RigMo → Int × Int × Int × Bool × Bool := fun (ps, _, i, k, o) =>
  bif hasMo ps i k then ((moAt ps i k).1, (moAt ps i k).2.1, (moAt ps i k).2.2.1, (moAt ps i k).2.2.2, decide ((moAt ps i k).2.2.2 = o)) else (0, 0, 0, false, false)
def mouthOfFu : RigMo → Nat := fun _ => 1
theorem mouthOf_ret (z : RigMo) (_ : true = true) : Ret mouthOf_re mouthOf_R (mouthOf_run (mouthOfFu z) z) (mouthOfM z) := by
  obtain ⟨ps, ls, i, k, o⟩ := z
  refine Ret.of (r' := ⟨true, .tup [.agg [.int .i64 (mouthOfM (ps, ls, i, k, o)).1, .int .i64 (mouthOfM (ps, ls, i, k, o)).2.1, .int .i64 (mouthOfM (ps, ls, i, k, o)).2.2.1, .bool (mouthOfM (ps, ls, i, k, o)).2.2.2.1], .bool (mouthOfM (ps, ls, i, k, o)).2.2.2.2], []⟩) ((mouthOf_arg ..).trans ((mouthOf_eq ..).trans ?_)) (Ret.moB _ _ _ _ _)
  simp only [mouthOfM, hasMo, moAt, mos, partAt]
  by_cases c1 : i < 0
  · simp [c1, show ¬ 0 ≤ i by omega]
  by_cases c2 : i ≥ ps.length
  · simp [c1, c2, show ¬ i < (ps.length : Int) by omega]
  by_cases c3 : k < 0
  · simp [c1, c2, c3, show ¬ 0 ≤ k by omega]
  have d1 : 0 ≤ i := by omega
  have d2 : i < (ps.length : Int) := by omega
  have d3 : 0 ≤ k := by omega
  by_cases c4 : k ≥ (nth p0 ps i.toNat).2.2.2.2.1.length
  · simp [c1, c2, c3, d1, d2, d3, c4, show ¬ k < ((nth p0 ps i.toNat).2.2.2.2.1.length : Int) by omega]
  · simp [c1, c2, c3, d1, d2, d3, c4, show k < ((nth p0 ps i.toNat).2.2.2.2.1.length : Int) by omega]; rfl
def isMouthM : RigMo → Bool := fun (ps, _, i, k, o) => hasMo ps i k && decide ((moAt ps i k).2.2.2 = o)
def isMouthFu : RigMo → Nat := fun _ => 1
theorem isMouth_ret (z : RigMo) (_ : true = true) : Ret isMouth_re isMouth_R (isMouth_run (isMouthFu z) z) (isMouthM z) := by
  obtain ⟨ps, ls, i, k, o⟩ := z
  refine Ret.of ((isMouth_arg ..).trans ((isMouth_eq ..).trans ?_)) (Ret.bool _)
  simp only [isMouthM, hasMo, moAt, mos, partAt]
  by_cases c1 : i < 0
  · simp [c1, show ¬ 0 ≤ i by omega]
  by_cases c2 : i ≥ ps.length
  · simp [c1, c2, show ¬ i < (ps.length : Int) by omega]
  have d1 : 0 ≤ i := by omega
  have d2 : i < (ps.length : Int) := by omega
  by_cases c3 : k < 0
  · simp [c1, c2, c3, d1, d2, show ¬ 0 ≤ k by omega]
  have d3 : 0 ≤ k := by omega
  by_cases c4 : k < (nth p0 ps i.toNat).2.2.2.2.1.length
  · simp [c1, c2, c3, d1, d2, d3, c4]; rfl
  · simp [c1, c2, c3, d1, d2, d3, c4]
end Go.Proofs.Ytknkkaimbhojpaa

open Go Go.Abs Go.Proofs
set_option linter.unusedVariables false
namespace Go.Proofs.Ytknkkaimbhojpaa
noncomputable def tbODL_1 : FuncId → List AV → List Blk → Res := addC 23 (tspec parts_sh parts_K parts_re parts_R partsOk partsM) tbOD
theorem tabODL_1 : Tab Try.prog tbODL_1 cxMd tbKOD := Tab.addTy tabOD tabOD (KK := parts_K) (R := parts_R) (fn := Try.f23) (by kernel_rfl) (by kernel_rfl) (by kernel_rfl) (by kernel_rfl) _ partsFu parts_ret
noncomputable def tbODL_2 : FuncId → List AV → List Blk → Res := addC 15 (tspec rParts_sh rParts_K rParts_re rParts_R rPartsOk rPartsM) tbODL_1
theorem tabODL_2 : Tab Try.prog tbODL_2 cxMd tbKOD := Tab.addTy tabODL_1 tabOD (KK := rParts_K) (R := rParts_R) (fn := Try.f15) (by kernel_rfl) (by kernel_rfl) (by kernel_rfl) (by kernel_rfl) _ rPartsFu rParts_ret
noncomputable def tbODL_3 : FuncId → List AV → List Blk → Res := addC 53 (tspec mouthOf_sh mouthOf_K mouthOf_re mouthOf_R (fun _ => true) mouthOfM) tbODL_2
theorem tabODL_3 : Tab Try.prog tbODL_3 cxMd tbKOD := Tab.addTy tabODL_2 tabOD (KK := mouthOf_K) (R := mouthOf_R) (fn := Try.f53) (by kernel_rfl) (by kernel_rfl) (by kernel_rfl) (by kernel_rfl) _ mouthOfFu mouthOf_ret
noncomputable def tbODL_4 : FuncId → List AV → List Blk → Res := addC 42 (tspec isMouth_sh isMouth_K isMouth_re isMouth_R (fun _ => true) isMouthM) tbODL_3
theorem tabODL_4 : Tab Try.prog tbODL_4 cxMd tbKOD := Tab.addTy tabODL_3 tabOD (KK := isMouth_K) (R := isMouth_R) (fn := Try.f42) (by kernel_rfl) (by kernel_rfl) (by kernel_rfl) (by kernel_rfl) _ isMouthFu isMouth_ret
noncomputable def tbODB : FuncId → List AV → List Blk → Res := tbODL_4
noncomputable def tbKODB : KT := tbKOD
theorem tabODB : Tab Try.prog tbODB cxMd tbKODB := tabODL_4
end Go.Proofs.Ytknkkaimbhojpaa
