/- The laws of what is small in an organ: its places, its mouths, its states. -/
import Derived.Test.YtknkkaimbhojpaaOA
set_option linter.all false
set_option linter.unusedVariables false
set_option linter.unusedSimpArgs false
open Go Go.Abs Go.Proofs
set_option linter.unusedSimpArgs false
set_option linter.unusedVariables false
namespace Go.Proofs.Ytknkkaimbhojpaa
abbrev Mo := Int × Int × Int × Bool
abbrev Organ := Int × Int × Int × List Int × List Mo
theorem Ret.int2 (k l : IntKind) (a b : Int) : Ret [none, none] (.pair (.int k) (.int l)) ⟨true, .tup [.int k a, .int l b], []⟩ (a, b) :=
  ⟨rfl, rfl, rfl, rfl, by simp [roVs, valsOf, view, view1, flatA, cellsA, decOk, nth, isInt, dropL, width], rfl, fun ws h => by cases h; simp⟩
theorem Ret.ibb (k : IntKind) (a : Int) (b c : Bool) : Ret [none, none, none] (.pair (.int k) (.pair .bool .bool)) ⟨true, .tup [.int k a, .bool b, .bool c], []⟩ (a, b, c) :=
  ⟨rfl, rfl, rfl, rfl, by simp [roVs, valsOf, view, view1, flatA, cellsA, decOk, nth, isInt, isB, dropL, width], rfl, fun ws h => by cases h; simp⟩
def withinM : Int × Int × Int × List Int × List Mo × Int × Int → Bool := fun (_, w, h, _, _, x, y) => decide (0 ≤ x ∧ x < w ∧ 0 ≤ y ∧ y < h)
abbrev oWithinM : Int × Int × Int × List Int × List Mo × Int × Int → Bool := withinM
abbrev rWithinM : Int × Int × Int × List Int × List Mo × Int × Int → Bool := withinM
def oWithinFu : CT oWithin_K → Nat := fun _ => 1
def rWithinFu : CT rWithin_K → Nat := fun _ => 1
theorem oWithin_ret (z : Int × Int × Int × List Int × List Mo × Int × Int) (_ : true = true) : Ret oWithin_re oWithin_R (oWithin_run (oWithinFu z) z) (oWithinM z) := by
  obtain ⟨kind, w, h, cells, mouths, x, y⟩ := z
  refine Ret.of ((oWithin_arg ..).trans ((oWithin_eq ..).trans ?_)) (Ret.bool _)
  simp only [oWithinM, withinM]
  by_cases c1 : 0 ≤ x <;> by_cases c2 : x < w <;> by_cases c3 : 0 ≤ y <;> simp [c1, c2, c3]
theorem rWithin_ret (z : Int × Int × Int × List Int × List Mo × Int × Int) (_ : true = true) : Ret rWithin_re rWithin_R (rWithin_run (rWithinFu z) z) (rWithinM z) := by
  obtain ⟨kind, w, h, cells, mouths, x, y⟩ := z
  refine Ret.of ((rWithin_arg ..).trans ((rWithin_eq ..).trans ?_)) (Ret.bool _)
  simp only [rWithinM, withinM]
  by_cases c1 : 0 ≤ x <;> by_cases c2 : x < w <;> by_cases c3 : 0 ≤ y <;> simp [c1, c2, c3]
def besideOk : Int × Int × Int → Bool := fun (_, _, d) => decide (0 ≤ d ∧ d < 4)
def besideM : Int × Int × Int → Int × Int := fun (x, y, d) => (IntKind.wrap .i64 (x + nth 0 [1, 0, -1, 0] d.toNat), IntKind.wrap .i64 (y + nth 0 [0, -1, 0, 1] d.toNat))
def besideFu : Int × Int × Int → Nat := fun _ => 1
theorem beside_ret (z : Int × Int × Int) (h : besideOk z = true) : Ret beside_re beside_R (beside_run (besideFu z) z) (besideM z) := by
  obtain ⟨x, y, d⟩ := z
  simp only [besideOk, decide_eq_true_eq] at h
  refine Ret.of ((beside_arg ..).trans ((beside_eq ..).trans ?_)) (Ret.int2 _ _ _ _)
  simp only [h.1, h.2, decide_true, Bool.and_self, cond_true, besideM]
def outerOk : Mo → Bool := fun (_, _, d, _) => decide (0 ≤ d ∧ d < 4)
def outerM : Mo → Int × Int := fun (x, y, d, _) => besideM (x, y, d)
def outerFu : Mo → Nat := fun _ => 1
theorem outer_ret (z : Mo) (h : outerOk z = true) : Ret outer_re outer_R (outer_run (outerFu z) z) (outerM z) := by
  obtain ⟨x, y, d, o⟩ := z
  simp only [outerOk, decide_eq_true_eq] at h
  refine Ret.of ((outer_arg ..).trans ((outer_eq ..).trans ?_)) (Ret.int2 _ _ _ _)
  obtain rfl | rfl | rfl | rfl : d = 0 ∨ d = 1 ∨ d = 2 ∨ d = 3 := by omega
  all_goals rfl
def isOrdM : Int → Int × Bool × Bool := fun s => bif decide (9 ≤ s ∧ s < 17) then (Int.tmod (s - 9) 4, decide (s ≥ 13), true) else (0, false, false)
def isOrdFu : Int → Nat := fun _ => 1
theorem isOrd_ret (s : Int) (_ : true = true) : Ret isOrd_re isOrd_R (isOrd_run (isOrdFu s) s) (isOrdM s) := by
  refine Ret.of (r' := ⟨true, .tup [.int .i64 (isOrdM s).1, .bool (isOrdM s).2.1, .bool (isOrdM s).2.2], []⟩) ((isOrd_arg ..).trans ((isOrd_eq ..).trans ?_)) (Ret.ibb _ _ _ _)
  simp only [isOrdM, isOrd_S4, isOrd_S3, isOrd_S2, isOrd_S1, Bool.cond_decide]
  by_cases c : 9 ≤ s ∧ s < 17
  · have c1 : s ≥ 1 := by omega
    have c2 : ¬ s < 9 := by omega
    have c3 : s ≥ 9 := by omega
    simp only [c1, c2, c3, c.2, if_true, if_false, decide_true, decide_false, and_self, wrap_id (n := s - 9) (by omega) (by omega)]
  · rw [if_neg c]
    by_cases h9 : s ≥ 9
    · simp [h9, show ¬ s < 17 by omega]
    · simp [h9]
def rStatesM : Int → Int := fun k => bif decide (k = 0) then 29 else bif decide (k = 1) then 32 else 0
def rStatesFu : Int → Nat := fun _ => 1
theorem rStates_ret (k : Int) (_ : true = true) : Ret rStates_re rStates_R (rStates_run (rStatesFu k) k) (rStatesM k) := by
  refine Ret.of ((rStates_arg ..).trans ((rStates_eq ..).trans ?_)) (Ret.int _ _)
  simp only [rStatesM, Bool.cond_decide]
  repeat' split
  all_goals rfl
def leadsM : Int × Int → Bool := fun (s, d) => decide (9 ≤ s ∧ s < 17 ∧ Int.tmod (s - 9) 4 = d)
def leadsFu : Int × Int → Nat := fun _ => 1
theorem leads_ret (z : Int × Int) (_ : true = true) : Ret leads_re leads_R (leads_run (leadsFu z) z) (leadsM z) := by
  obtain ⟨s, d⟩ := z
  refine Ret.of ((leads_arg ..).trans ((leads_eq ..).trans ?_)) (Ret.bool _)
  simp only [leadsM, leads_S1, leads_S2, leads_S3]
  by_cases c : 9 ≤ s
  · by_cases c2 : s < 17
    · have c3 : s ≥ 9 := c
      have c4 : ¬ s ≥ 17 := by omega
      simp only [c, c2, c3, c4, decide_true, decide_false, Bool.not_true, cond_true, cond_false, true_and, wrap_id (n := s - 9) (by omega) (by omega)]
      simp only [Bool.cond_decide]
      repeat' split
      all_goals rfl
    · simp [c, c2]
  · simp [c]
abbrev Six := Int × Int × Int × Int × Int × Int
def checkOk : Int × List Six → Bool := fun (k, _) => decide (k = 0 ∨ k = 1)
def checkM : Int × List Six → Int := fun _ => 0
def checkFu : Int × List Six → Nat := fun _ => 1
theorem check_ret (z : Int × List Six) (h : checkOk z = true) : Ret check_re check_R (check_run (checkFu z) z) (checkM z) := by
  obtain ⟨k, l⟩ := z
  simp only [checkOk, decide_eq_true_eq] at h
  refine Ret.of ((check_arg ..).trans ((check_eq ..).trans ?_)) (Ret.int _ _)
  rcases h with rfl | rfl <;> simp [checkM]
/-! ### Mouths -/
def cntO : List Mo → Nat
  | [] => 0
  | m :: l => (bif m.2.2.2 then 1 else 0) + cntO l
def cntI : List Mo → Nat
  | [] => 0
  | m :: l => (bif m.2.2.2 then 0 else 1) + cntI l
theorem cnt_le : ∀ (l : List Mo), cntO l + cntI l = l.length
  | [] => rfl
  | m :: l => by
    have := cnt_le l
    simp only [cntO, cntI, List.length_cons]
    cases m.2.2.2 <;> simp <;> omega
theorem mouths_L0_spec (F : Nat) (kind w h : Int) (cells : List Int) (ms : List Mo) (hx : ms.length < big) : ∀ (k n i a b : Nat), i + k = ms.length → k < n → a + b = i →
    mouths_L0 F n a b i kind w h cells ms = ⟨true, .tup [.int .i64 ((a + cntI (ms.drop i) : Nat) : Int), .int .i64 ((b + cntO (ms.drop i) : Nat) : Int)], []⟩
  | k, 0, i, a, b, _, h, _ => by omega
  | 0, n + 1, i, a, b, hi, _, _ => by
    rw [mouths_L0_succ, drop_len ms (by omega)]
    simp [show ¬ ((i : Int) < ms.length) by omega, cntI, cntO]
  | k + 1, n + 1, i, a, b, hi, hn, hab => by
    have ih1 := mouths_L0_spec F kind w h cells ms hx k n (i + 1) (a + 1) b (by omega) (by omega) (by omega)
    have ih2 := mouths_L0_spec F kind w h cells ms hx k n (i + 1) a (b + 1) (by omega) (by omega) (by omega)
    simp only [big] at hx
    rw [mouths_L0_succ, wrap_succ (by omega), wrap_succ (by omega), wrap_succ (by omega), ih1, ih2, drop_nth (0, 0, 0, false) ms (show i < ms.length by omega)]
    have h1 : (i : Int) < ms.length := by omega
    have h0 : (0 : Int) ≤ i := by omega
    simp only [h1, h0, decide_true, Bool.true_and, cond_true, Int.toNat_natCast, cntI, cntO]
    cases (nth (0, 0, 0, false) ms i).2.2.2
    · simp only [cond_false, Res.mk.injEq, AV.tup.injEq, List.cons.injEq, AV.int.injEq, true_and, and_true]; omega
    · simp only [cond_true, Res.mk.injEq, AV.tup.injEq, List.cons.injEq, AV.int.injEq, true_and, and_true]; omega
def mouthsOk : Organ → Bool := fun (_, _, _, _, ms) => decide (ms.length < big)
def mouthsM : Organ → Int × Int := fun (_, _, _, _, ms) => ((cntI ms : Int), (cntO ms : Int))
def mouthsFu : Organ → Nat := fun (_, _, _, _, ms) => ms.length + 1
theorem mouths_ret (z : Organ) (hk : mouthsOk z = true) : Ret mouths_re mouths_R (mouths_run (mouthsFu z) z) (mouthsM z) := by
  obtain ⟨kind, w, h, cells, ms⟩ := z
  simp only [mouthsOk, decide_eq_true_eq] at hk
  refine Ret.of ((mouths_arg ..).trans ((mouths_eq ..).trans ?_)) (Ret.int2 _ _ _ _)
  have := mouths_L0_spec (ms.length + 1) kind w h cells ms hk ms.length (ms.length + 1) 0 0 0 (by omega) (by omega) (by omega)
  rw [show (0 : Int) = ((0 : Nat) : Int) from rfl, show mouthsFu (kind, w, h, cells, ms) = ms.length + 1 from rfl, this]
  simp only [Nat.zero_add, List.drop_zero, mouthsM]
end Go.Proofs.Ytknkkaimbhojpaa

open Go Go.Abs Go.Proofs
set_option linter.unusedVariables false
namespace Go.Proofs.Ytknkkaimbhojpaa
noncomputable def tbOAL_1 : FuncId → List AV → List Blk → Res := addC 70 (tspec check_sh check_K check_re check_R checkOk checkM) tbOA
theorem tabOAL_1 : Tab Try.prog tbOAL_1 cxMd tbKOA := Tab.addTy tabOA tabOA (KK := check_K) (R := check_R) (fn := Try.f70) (by kernel_rfl) (by kernel_rfl) (by kernel_rfl) (by kernel_rfl) _ checkFu check_ret
noncomputable def tbOAL_2 : FuncId → List AV → List Blk → Res := addC 57 (tspec oWithin_sh oWithin_K oWithin_re oWithin_R (fun _ => true) oWithinM) tbOAL_1
theorem tabOAL_2 : Tab Try.prog tbOAL_2 cxMd tbKOA := Tab.addTy tabOAL_1 tabOA (KK := oWithin_K) (R := oWithin_R) (fn := Try.f57) (by kernel_rfl) (by kernel_rfl) (by kernel_rfl) (by kernel_rfl) _ oWithinFu oWithin_ret
noncomputable def tbOAL_3 : FuncId → List AV → List Blk → Res := addC 68 (tspec rWithin_sh rWithin_K rWithin_re rWithin_R (fun _ => true) rWithinM) tbOAL_2
theorem tabOAL_3 : Tab Try.prog tbOAL_3 cxMd tbKOA := Tab.addTy tabOAL_2 tabOA (KK := rWithin_K) (R := rWithin_R) (fn := Try.f68) (by kernel_rfl) (by kernel_rfl) (by kernel_rfl) (by kernel_rfl) _ rWithinFu rWithin_ret
noncomputable def tbOAL_4 : FuncId → List AV → List Blk → Res := addC 58 (tspec beside_sh beside_K beside_re beside_R besideOk besideM) tbOAL_3
theorem tabOAL_4 : Tab Try.prog tbOAL_4 cxMd tbKOA := Tab.addTy tabOAL_3 tabOA (KK := beside_K) (R := beside_R) (fn := Try.f58) (by kernel_rfl) (by kernel_rfl) (by kernel_rfl) (by kernel_rfl) _ besideFu beside_ret
noncomputable def tbOAL_5 : FuncId → List AV → List Blk → Res := addC 67 (tspec outer_sh outer_K outer_re outer_R outerOk outerM) tbOAL_4
theorem tabOAL_5 : Tab Try.prog tbOAL_5 cxMd tbKOA := Tab.addTy tabOAL_4 tabOA (KK := outer_K) (R := outer_R) (fn := Try.f67) (by kernel_rfl) (by kernel_rfl) (by kernel_rfl) (by kernel_rfl) _ outerFu outer_ret
noncomputable def tbOAL_6 : FuncId → List AV → List Blk → Res := addC 59 (tspec isOrd_sh isOrd_K isOrd_re isOrd_R (fun _ => true) isOrdM) tbOAL_5
theorem tabOAL_6 : Tab Try.prog tbOAL_6 cxMd tbKOA := Tab.addTy tabOAL_5 tabOA (KK := isOrd_K) (R := isOrd_R) (fn := Try.f59) (by kernel_rfl) (by kernel_rfl) (by kernel_rfl) (by kernel_rfl) _ isOrdFu isOrd_ret
noncomputable def tbOAL_7 : FuncId → List AV → List Blk → Res := addC 50 (tspec rStates_sh rStates_K rStates_re rStates_R (fun _ => true) rStatesM) tbOAL_6
theorem tabOAL_7 : Tab Try.prog tbOAL_7 cxMd tbKOA := Tab.addTy tabOAL_6 tabOA (KK := rStates_K) (R := rStates_R) (fn := Try.f50) (by kernel_rfl) (by kernel_rfl) (by kernel_rfl) (by kernel_rfl) _ rStatesFu rStates_ret
noncomputable def tbOAL_8 : FuncId → List AV → List Blk → Res := addC 69 (tspec leads_sh leads_K leads_re leads_R (fun _ => true) leadsM) tbOAL_7
theorem tabOAL_8 : Tab Try.prog tbOAL_8 cxMd tbKOA := Tab.addTy tabOAL_7 tabOA (KK := leads_K) (R := leads_R) (fn := Try.f69) (by kernel_rfl) (by kernel_rfl) (by kernel_rfl) (by kernel_rfl) _ leadsFu leads_ret
noncomputable def tbOAL_9 : FuncId → List AV → List Blk → Res := addC 51 (tspec mouths_sh mouths_K mouths_re mouths_R mouthsOk mouthsM) tbOAL_8
theorem tabOAL_9 : Tab Try.prog tbOAL_9 cxMd tbKOA := Tab.addTy tabOAL_8 tabOA (KK := mouths_K) (R := mouths_R) (fn := Try.f51) (by kernel_rfl) (by kernel_rfl) (by kernel_rfl) (by kernel_rfl) _ mouthsFu mouths_ret
noncomputable def tbOAB : FuncId → List AV → List Blk → Res := tbOAL_9
noncomputable def tbKOAB : KT := tbKOA
theorem tabOAB : Tab Try.prog tbOAB cxMd tbKOAB := tabOAL_9
end Go.Proofs.Ytknkkaimbhojpaa
