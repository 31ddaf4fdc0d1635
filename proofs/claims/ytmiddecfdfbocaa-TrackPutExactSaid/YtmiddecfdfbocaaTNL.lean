/- A journal in new memory, whose branches own their edits; whether a time is past. -/
import Derived.Test.YtmiddecfdfbocaaTN
import Derived.Test.YtmiddecfdfbocaaTJL
import Derived.Test.YtmiddecfdfbocaaA22
set_option linter.all false
set_option linter.unusedVariables false
set_option linter.unusedSimpArgs false
open Go Go.Abs Go.Proofs
set_option linter.unusedSimpArgs false
set_option linter.unusedVariables false
namespace Go.Proofs.Ytmiddecfdfbocaa
abbrev cell_k : CK := .pair (.int .i64) (.pair (.int .i64) (.int .i64))
abbrev edit_k : CK := .pair (.int .i64) (.slice 58 cell_k)
abbrev branch_k : CK := .pair (.int .i64) (.pair (.int .i64) (.slice 47 edit_k))
abbrev case_k : CK := .pair (.int .i64) (.pair (.int .i64) (.pair (.int .i64) (.pair (.int .i64) (.pair (.int .i64) (.int .i64)))))
def copiedTOk : Journal → Bool := copiedOk
def copiedTR : Journal → Res := fun (kind, cases, first, bs) => ⟨true, .agg [.int .i64 kind, .ro case_k cases, .ro cell_k first, .tsl 0 0 []], [.tab false 0 0 45 branch_k [47] bs none]⟩
abbrev copiedTFu : Journal → Nat := fun j => fuelJ j.2.2.2
theorem copiedT_L1_spec (F m : Nat) (bs : List Branch) (len q : Int) (z kind : Int) (cases : List Six) (first : List Cell) (fr bat : Int) (es : List Edit) (h3 : List Six) (h4 : List Cell) (h5 acc : List Branch) (hs : es.length * 32 ≤ 140737488355328) (ho : es.all editFit = true) (ha : (acc.length + 1) * 40 ≤ 140737488355328) : ∀ (k f i : Nat), i + k = es.length → k < f →
    copiedT_L1 F m f bs len q es es.length i z kind cases first fr bat h3 h4 h5 acc (es.take i) = copiedT_L0 F m bs len (IntKind.wrap IntKind.i64 (q + 1)) z kind cases first h3 h4 h5 (acc ++ [(fr, bat, es)])
  | k, 0, i, _, h => by omega
  | 0, f + 1, i, hi, _ => by
    rw [copiedT_L1_succ, ltF (by omega), cond_false, List.take_of_length_le (by omega)]
    have : decide (Nat.mul (Nat.add acc.length 1) 40 ≤ 140737488355328) = true := decide_eq_true ha
    rw [this, cond_true]
  | k + 1, f + 1, i, hi, hf => by
    have ih := copiedT_L1_spec F m bs len q z kind cases first fr bat es h3 h4 h5 acc hs ho ha k f (i + 1) (by omega) (by omega)
    have hx := nth_all (d := edit0) ho (i := i) (by omega)
    rw [copiedT_L1_succ, ltT (by omega), nnT, Int.toNat_natCast, wrapS (by simp [big]; omega)]
    have hc : cloneCellOk (nth edit0 es i).2 = true := hx
    have : (Nat.ble 0 (es.take i).length && decide (Nat.mul (Nat.add (es.take i).length 1) 32 ≤ 140737488355328)) = true := by
      have h1 : (es.take i).length = i := by rw [List.length_take]; omega
      have : Nat.mul (Nat.add (es.take i).length 1) 32 ≤ 140737488355328 := by
        rw [h1]
        show (i + 1) * 32 ≤ _
        omega
      rw [Bool.and_eq_true]
      exact ⟨Nat.ble_eq_true_of_le (Nat.zero_le _), decide_eq_true this⟩
    rw [this, hc]
    simp only [cond_true, Bool.and_true, cloneCellM]
    rw [take_nth edit0 es (by omega)] at ih
    exact ih
theorem copiedT_L0_spec (F : Nat) (bs : List Branch) (z kind : Int) (cases : List Six) (first : List Cell) (h3 : List Six) (h4 : List Cell) (h5 : List Branch) (hs : bs.length * 40 ≤ 140737488355328) (ho : bs.all branchFit = true) (hF : ∀ b ∈ bs, b.2.2.length < F) : ∀ (k f i : Nat), i + k = bs.length → k < f →
    copiedT_L0 F f bs bs.length i z kind cases first h3 h4 h5 (bs.take i) = copiedTR (kind, cases, first, bs)
  | k, 0, i, _, h => by omega
  | 0, f + 1, i, hi, _ => by
    rw [copiedT_L0_succ, ltF (by omega), cond_false, List.take_of_length_le (by omega)]
    rfl
  | k + 1, f + 1, i, hi, hf => by
    have ih := copiedT_L0_spec F bs z kind cases first h3 h4 h5 hs ho hF k f (i + 1) (by omega) (by omega)
    have hx := nth_all (d := branch0) ho (i := i) (by omega)
    have hm := hF _ (nth_mem branch0 bs (i := i) (by omega))
    rw [copiedT_L0_succ, ltT (by omega), nnT, Int.toNat_natCast]
    rw [take_nth branch0 bs (by omega)] at ih
    generalize nth branch0 bs i = b at *
    obtain ⟨fr, bat, es⟩ := b
    simp only [branchFit, Bool.and_eq_true, decide_eq_true_eq] at hx
    have h1 : (bs.take i).length = i := by rw [List.length_take]; omega
    have := copiedT_L1_spec F f bs bs.length i z kind cases first fr bat es h3 h4 h5 (bs.take i) hx.1 hx.2 (by rw [h1]; omega) es.length F 0 (by omega) hm
    rw [List.take_zero, show ((0 : Nat) : Int) = 0 from rfl] at this
    simp only [cond_true, Bool.and_true]
    rw [this, wrapS (by simp [big]; omega)]
    exact ih
theorem copiedT_retR (j : Journal) (h : copiedTOk j = true) : copiedT_run (copiedTFu j) j = copiedTR j ∧ (copiedTR j).ok = true := by
  obtain ⟨kind, cases, first, bs⟩ := j
  simp only [copiedTOk, copiedOk, Bool.and_eq_true, decide_eq_true_eq] at h
  obtain ⟨h1, h2, h3, h4⟩ := h
  refine ⟨(copiedT_arg ..).trans ((copiedT_eq ..).trans ?_), rfl⟩
  rw [show cloneCaseOk cases = true by simp [cloneCaseOk, h1], show cloneCellOk first = true by simp [cloneCellOk, h2]]
  have := copiedT_L0_spec (fuelJ bs) bs 0 kind cases first [] [] [] h3 h4 (fun b hb => fuelJ_mem hb) bs.length (fuelJ bs) 0 (by omega) (by simp [fuelJ]; omega)
  rw [List.take_zero, show ((0 : Nat) : Int) = 0 from rfl] at this
  exact this

/-! ### past -/
abbrev Asked := Int × List Six × List Cell × List Branch × Int × Int
def pastE (t : Int) (es : List Edit) : Bool := es.any fun e => decide (t ≤ e.1)
def pastB (b t : Int) (bs : List Branch) : Bool := bs.any fun x => decide (x.1 = b) && decide (t ≤ x.2.1)
def pastF (bs : List Branch) (b t : Int) : Bool := pastE t (nth branch0 bs b.toNat).2.2 || pastB b t bs
def pastOk : Asked → Bool := fun (_, _, _, bs, b, t) => decide (bs.length < big) && (decide ((nth branch0 bs b.toNat).2.2.length < big) && (decide (0 ≤ b) && decide (b < (bs.length : Int))))
def pastM : Asked → Bool := fun (_, _, _, bs, b, t) => pastF bs b t
def pastFu : Asked → Nat := fun (_, _, _, bs, b, t) => bs.length + (nth branch0 bs b.toNat).2.2.length + 1
theorem past_L1_spec (F : Nat) (b t : Int) (bs : List Branch) (hl : bs.length < big) : ∀ (k f i : Nat), i + k = bs.length → k < f → past_L1 F f b t bs bs.length i = ⟨true, .bool (pastB b t (bs.drop i)), []⟩
  | k, 0, i, _, h => by omega
  | 0, f + 1, i, hi, _ => by
    rw [past_L1_succ, ltF (by omega), cond_false, drop_len bs (by omega)]
    rfl
  | k + 1, f + 1, i, hi, hf => by
    have ih := past_L1_spec F b t bs hl k f (i + 1) (by omega) (by omega)
    rw [past_L1_succ, ltT (by omega), nnT, drop_nth branch0 bs (by omega : i < bs.length), Int.toNat_natCast, wrapS (by omega), ih]
    generalize nth branch0 bs i = x at *
    simp only [pastB, List.any_cons, Bool.and_true, cond_true]
    cases decide (x.1 = b) <;> cases decide (t ≤ x.2.1) <;> rfl
theorem past_L0_spec (F : Nat) (b t kind : Int) (cases : List Six) (first : List Cell) (bs : List Branch) (es : List Edit) (hl : es.length < big) (hb : bs.length < big) (hF : bs.length < F) : ∀ (k f i : Nat), i + k = es.length → k < f →
    past_L0 F f b t es es.length i kind cases first bs = ⟨true, .bool (pastE t (es.drop i) || pastB b t bs), []⟩
  | k, 0, i, _, h => by omega
  | 0, f + 1, i, hi, _ => by
    rw [past_L0_succ, ltF (by omega), cond_false, drop_len es (by omega)]
    have := past_L1_spec F b t bs hb bs.length F 0 (by omega) hF
    rw [List.drop_zero, show ((0 : Nat) : Int) = 0 from rfl] at this
    rw [this]
    rfl
  | k + 1, f + 1, i, hi, hf => by
    have ih := past_L0_spec F b t kind cases first bs es hl hb hF k f (i + 1) (by omega) (by omega)
    rw [past_L0_succ, ltT (by omega), nnT, drop_nth edit0 es (by omega : i < es.length), Int.toNat_natCast, wrapS (by omega), ih]
    generalize nth edit0 es i = x at *
    simp only [pastE, List.any_cons, Bool.and_true, cond_true]
    cases decide (t ≤ x.1) <;> rfl
theorem past_ret (x : Asked) (h : pastOk x = true) : Ret past_re past_R (past_run (pastFu x) x) (pastM x) := by
  obtain ⟨kind, cases, first, bs, b, t⟩ := x
  simp only [pastOk, Bool.and_eq_true, decide_eq_true_eq] at h
  obtain ⟨h1, h2, h3, h4⟩ := h
  refine Ret.of ((past_arg ..).trans ((past_eq ..).trans ?_)) (Ret.bool _)
  rw [show (decide (0 ≤ b) && decide (b < (bs.length : Int))) = true by simp; exact ⟨h3, h4⟩, cond_true]
  have := past_L0_spec (pastFu (kind, cases, first, bs, b, t)) b t kind cases first bs _ h2 h1 (by simp only [pastFu]; omega) _ (pastFu (kind, cases, first, bs, b, t)) 0 (Nat.zero_add _) (by simp only [pastFu]; omega)
  rw [List.drop_zero, show ((0 : Nat) : Int) = 0 from rfl] at this
  exact this
end Go.Proofs.Ytmiddecfdfbocaa

open Go Go.Abs Go.Proofs
set_option linter.unusedVariables false
namespace Go.Proofs.Ytmiddecfdfbocaa
noncomputable def tbTNL_1 : FuncId → List AV → List Blk → Res := addC 21 (tspecR copiedT_sh copiedT_K copiedTOk copiedTR) tbTN
theorem tabTNL_1 : Tab Try.prog tbTNL_1 cxMd tbKTN := Tab.addTyR (os := [47]) tabTN tabTN (KK := copiedT_K) (fn := Try.f21) (by kernel_rfl) (by kernel_rfl) (by kernel_rfl) (by kernel_rfl) _ copiedTFu copiedT_retR
noncomputable def tbTNL_2 : FuncId → List AV → List Blk → Res := addC 29 (tspec past_sh past_K past_re past_R pastOk pastM) tbTNL_1
theorem tabTNL_2 : Tab Try.prog tbTNL_2 cxMd tbKTN := Tab.addTy (os := []) tabTNL_1 tabTN (KK := past_K) (R := past_R) (fn := Try.f29) (by kernel_rfl) (by kernel_rfl) (by kernel_rfl) (by kernel_rfl) _ pastFu past_ret
noncomputable def tbTNB : FuncId → List AV → List Blk → Res := tbTNL_2
noncomputable def tbKTNB : KT := tbKTN
theorem tabTNB : Tab Try.prog tbTNB cxMd tbKTNB := tabTNL_2
end Go.Proofs.Ytmiddecfdfbocaa
