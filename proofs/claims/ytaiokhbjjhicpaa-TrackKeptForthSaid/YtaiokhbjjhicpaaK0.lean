/- Part of the proof, by an evaluator over plain values: K0. -/
import Derived.Test.YtaiokhbjjhicpaaA25
import Derived.Test.YtaiokhbjjhicpaaProg
import Derived.KernelRfl
set_option linter.all false
set_option linter.unusedVariables false
set_option linter.unusedSimpArgs false
open Go Go.Abs Go.Proofs
set_option linter.unusedVariables false
namespace Go.Proofs.Ytaiokhbjjhicpaa
def cxMd (f : FuncId) : List Bool := bif f == 9 then [true, false, false] else bif f == 20 then [true, false, false, false] else bif f == 10 then [true, false, false] else bif f == 11 then [true, false, false] else bif f == 13 then [true, false, false] else bif f == 14 then [true, false, false] else bif f == 16 then [true, false, false, false] else bif f == 17 then [true, false, false, false] else bif f == 7 then [true, false, false, false] else bif f == 6 then [true] else bif f == 26 then [false, false, false, true] else bif f == 24 then [false, false, false, false, true] else bif f == 22 then [true] else []
theorem mixed : Try.prog.follows .mixedOrders = true := by kernel_rfl
theorem tabN : Tab Try.prog noC cxMd noK := Tab.none mixed
noncomputable def tbK0_1 : FuncId → List AV → List Blk → Res := addC 25 (inl Try.prog noC cxMd noK Try.f25) noC
noncomputable def tbKK0_1 : KT := addK 25 (inlK Try.prog noC cxMd noK Try.f25) noK
theorem tabK0_1 : Tab Try.prog tbK0_1 cxMd tbKK0_1 := Tab.addInl tabN tabN (fn := Try.f25) (by kernel_rfl) (by kernel_rfl) (by kernel_rfl)
noncomputable def tbK0_2 : FuncId → List AV → List Blk → Res := addC 15 (inl Try.prog tbK0_1 cxMd tbKK0_1 Try.f15) tbK0_1
noncomputable def tbKK0_2 : KT := addK 15 (inlK Try.prog tbK0_1 cxMd tbKK0_1 Try.f15) tbKK0_1
theorem tabK0_2 : Tab Try.prog tbK0_2 cxMd tbKK0_2 := Tab.addInl tabK0_1 tabK0_1 (fn := Try.f15) (by kernel_rfl) (by kernel_rfl) (by kernel_rfl)
noncomputable def tbK0_3 : FuncId → List AV → List Blk → Res := addC 18 (inl Try.prog tbK0_2 cxMd tbKK0_2 Try.f18) tbK0_2
noncomputable def tbKK0_3 : KT := addK 18 (inlK Try.prog tbK0_2 cxMd tbKK0_2 Try.f18) tbKK0_2
theorem tabK0_3 : Tab Try.prog tbK0_3 cxMd tbKK0_3 := Tab.addInl tabK0_2 tabK0_2 (fn := Try.f18) (by kernel_rfl) (by kernel_rfl) (by kernel_rfl)
noncomputable def tbK0_4 : FuncId → List AV → List Blk → Res := addC 19 (inl Try.prog tbK0_3 cxMd tbKK0_3 Try.f19) tbK0_3
noncomputable def tbKK0_4 : KT := addK 19 (inlK Try.prog tbK0_3 cxMd tbKK0_3 Try.f19) tbKK0_3
theorem tabK0_4 : Tab Try.prog tbK0_4 cxMd tbKK0_4 := Tab.addInl tabK0_3 tabK0_3 (fn := Try.f19) (by kernel_rfl) (by kernel_rfl) (by kernel_rfl)
noncomputable def tbK0_5 : FuncId → List AV → List Blk → Res := addC 26 (inl Try.prog tbK0_4 cxMd tbKK0_4 Try.f26) tbK0_4
noncomputable def tbKK0_5 : KT := addK 26 (inlK Try.prog tbK0_4 cxMd tbKK0_4 Try.f26) tbKK0_4
theorem tabK0_5 : Tab Try.prog tbK0_5 cxMd tbKK0_5 := Tab.addInl tabK0_4 tabK0_4 (fn := Try.f26) (by kernel_rfl) (by kernel_rfl) (by kernel_rfl)
noncomputable def tbK0_6 : FuncId → List AV → List Blk → Res := addC 24 (inl Try.prog tbK0_5 cxMd tbKK0_5 Try.f24) tbK0_5
noncomputable def tbKK0_6 : KT := addK 24 (inlK Try.prog tbK0_5 cxMd tbKK0_5 Try.f24) tbKK0_5
theorem tabK0_6 : Tab Try.prog tbK0_6 cxMd tbKK0_6 := Tab.addInl tabK0_5 tabK0_5 (fn := Try.f24) (by kernel_rfl) (by kernel_rfl) (by kernel_rfl)
noncomputable def tbK0_7 : FuncId → List AV → List Blk → Res := addC 22 (inl Try.prog tbK0_6 cxMd tbKK0_6 Try.f22) tbK0_6
noncomputable def tbKK0_7 : KT := addK 22 (inlK Try.prog tbK0_6 cxMd tbKK0_6 Try.f22) tbKK0_6
theorem tabK0_7 : Tab Try.prog tbK0_7 cxMd tbKK0_7 := Tab.addInl tabK0_6 tabK0_6 (fn := Try.f22) (by kernel_rfl) (by kernel_rfl) (by kernel_rfl)
noncomputable def tbK0 : FuncId → List AV → List Blk → Res := tbK0_7
noncomputable def tbKK0 : KT := tbKK0_7
theorem tabK0 : Tab Try.prog tbK0 cxMd tbKK0 := tabK0_7
noncomputable def cx_bitsLen (F : Nat) : Cx := { P := Try.prog, C := tbK0, K := tbKK0, mode := cxMd, fuel := F, live := liveTab [], pin := 0, nx := true }

end Go.Proofs.Ytaiokhbjjhicpaa

open Go Go.Abs Go.Proofs
set_option linter.unusedVariables false
namespace Go.Proofs.Ytaiokhbjjhicpaa
def lenTab : List Int := [0, 1, 2, 2, 3, 3, 3, 3, 4, 4, 4, 4, 4, 4, 4, 4, 5, 5, 5, 5, 5, 5, 5, 5, 5, 5, 5, 5, 5, 5, 5, 5, 6, 6, 6, 6, 6, 6, 6, 6, 6, 6, 6, 6, 6, 6, 6, 6, 6, 6]
def bitsLenOk : Int → Bool := fun n => decide (0 ≤ n ∧ n < 50)
def bitsLenM : Int → Int := fun n => nth 0 lenTab n.toNat
noncomputable abbrev lenR (n : Int) : Res := runF (cx_bitsLen 0) Try.f8 [.int .u64 n] []
theorem len_0 : lenR 0 = ⟨true, .int .i64 0, []⟩ := by kernel_rfl
theorem len_1 : lenR 1 = ⟨true, .int .i64 1, []⟩ := by kernel_rfl
theorem len_2 : lenR 2 = ⟨true, .int .i64 2, []⟩ := by kernel_rfl
theorem len_3 : lenR 3 = ⟨true, .int .i64 2, []⟩ := by kernel_rfl
theorem len_4 : lenR 4 = ⟨true, .int .i64 3, []⟩ := by kernel_rfl
theorem len_5 : lenR 5 = ⟨true, .int .i64 3, []⟩ := by kernel_rfl
theorem len_6 : lenR 6 = ⟨true, .int .i64 3, []⟩ := by kernel_rfl
theorem len_7 : lenR 7 = ⟨true, .int .i64 3, []⟩ := by kernel_rfl
theorem len_8 : lenR 8 = ⟨true, .int .i64 4, []⟩ := by kernel_rfl
theorem len_9 : lenR 9 = ⟨true, .int .i64 4, []⟩ := by kernel_rfl
theorem len_10 : lenR 10 = ⟨true, .int .i64 4, []⟩ := by kernel_rfl
theorem len_11 : lenR 11 = ⟨true, .int .i64 4, []⟩ := by kernel_rfl
theorem len_12 : lenR 12 = ⟨true, .int .i64 4, []⟩ := by kernel_rfl
theorem len_13 : lenR 13 = ⟨true, .int .i64 4, []⟩ := by kernel_rfl
theorem len_14 : lenR 14 = ⟨true, .int .i64 4, []⟩ := by kernel_rfl
theorem len_15 : lenR 15 = ⟨true, .int .i64 4, []⟩ := by kernel_rfl
theorem len_16 : lenR 16 = ⟨true, .int .i64 5, []⟩ := by kernel_rfl
theorem len_17 : lenR 17 = ⟨true, .int .i64 5, []⟩ := by kernel_rfl
theorem len_18 : lenR 18 = ⟨true, .int .i64 5, []⟩ := by kernel_rfl
theorem len_19 : lenR 19 = ⟨true, .int .i64 5, []⟩ := by kernel_rfl
theorem len_20 : lenR 20 = ⟨true, .int .i64 5, []⟩ := by kernel_rfl
theorem len_21 : lenR 21 = ⟨true, .int .i64 5, []⟩ := by kernel_rfl
theorem len_22 : lenR 22 = ⟨true, .int .i64 5, []⟩ := by kernel_rfl
theorem len_23 : lenR 23 = ⟨true, .int .i64 5, []⟩ := by kernel_rfl
theorem len_24 : lenR 24 = ⟨true, .int .i64 5, []⟩ := by kernel_rfl
theorem len_25 : lenR 25 = ⟨true, .int .i64 5, []⟩ := by kernel_rfl
theorem len_26 : lenR 26 = ⟨true, .int .i64 5, []⟩ := by kernel_rfl
theorem len_27 : lenR 27 = ⟨true, .int .i64 5, []⟩ := by kernel_rfl
theorem len_28 : lenR 28 = ⟨true, .int .i64 5, []⟩ := by kernel_rfl
theorem len_29 : lenR 29 = ⟨true, .int .i64 5, []⟩ := by kernel_rfl
theorem len_30 : lenR 30 = ⟨true, .int .i64 5, []⟩ := by kernel_rfl
theorem len_31 : lenR 31 = ⟨true, .int .i64 5, []⟩ := by kernel_rfl
theorem len_32 : lenR 32 = ⟨true, .int .i64 6, []⟩ := by kernel_rfl
theorem len_33 : lenR 33 = ⟨true, .int .i64 6, []⟩ := by kernel_rfl
theorem len_34 : lenR 34 = ⟨true, .int .i64 6, []⟩ := by kernel_rfl
theorem len_35 : lenR 35 = ⟨true, .int .i64 6, []⟩ := by kernel_rfl
theorem len_36 : lenR 36 = ⟨true, .int .i64 6, []⟩ := by kernel_rfl
theorem len_37 : lenR 37 = ⟨true, .int .i64 6, []⟩ := by kernel_rfl
theorem len_38 : lenR 38 = ⟨true, .int .i64 6, []⟩ := by kernel_rfl
theorem len_39 : lenR 39 = ⟨true, .int .i64 6, []⟩ := by kernel_rfl
theorem len_40 : lenR 40 = ⟨true, .int .i64 6, []⟩ := by kernel_rfl
theorem len_41 : lenR 41 = ⟨true, .int .i64 6, []⟩ := by kernel_rfl
theorem len_42 : lenR 42 = ⟨true, .int .i64 6, []⟩ := by kernel_rfl
theorem len_43 : lenR 43 = ⟨true, .int .i64 6, []⟩ := by kernel_rfl
theorem len_44 : lenR 44 = ⟨true, .int .i64 6, []⟩ := by kernel_rfl
theorem len_45 : lenR 45 = ⟨true, .int .i64 6, []⟩ := by kernel_rfl
theorem len_46 : lenR 46 = ⟨true, .int .i64 6, []⟩ := by kernel_rfl
theorem len_47 : lenR 47 = ⟨true, .int .i64 6, []⟩ := by kernel_rfl
theorem len_48 : lenR 48 = ⟨true, .int .i64 6, []⟩ := by kernel_rfl
theorem len_49 : lenR 49 = ⟨true, .int .i64 6, []⟩ := by kernel_rfl
theorem len_all (n : Int) (h : bitsLenOk n = true) : lenR n = ⟨true, .int .i64 (bitsLenM n), []⟩ := by
  have h := of_decide_eq_true h
  obtain ⟨m, rfl⟩ : ∃ m : Nat, n = m := ⟨n.toNat, by omega⟩
  have hm : m < 50 := by omega
  match m, hm with
  | 0, _ => exact len_0
  | 1, _ => exact len_1
  | 2, _ => exact len_2
  | 3, _ => exact len_3
  | 4, _ => exact len_4
  | 5, _ => exact len_5
  | 6, _ => exact len_6
  | 7, _ => exact len_7
  | 8, _ => exact len_8
  | 9, _ => exact len_9
  | 10, _ => exact len_10
  | 11, _ => exact len_11
  | 12, _ => exact len_12
  | 13, _ => exact len_13
  | 14, _ => exact len_14
  | 15, _ => exact len_15
  | 16, _ => exact len_16
  | 17, _ => exact len_17
  | 18, _ => exact len_18
  | 19, _ => exact len_19
  | 20, _ => exact len_20
  | 21, _ => exact len_21
  | 22, _ => exact len_22
  | 23, _ => exact len_23
  | 24, _ => exact len_24
  | 25, _ => exact len_25
  | 26, _ => exact len_26
  | 27, _ => exact len_27
  | 28, _ => exact len_28
  | 29, _ => exact len_29
  | 30, _ => exact len_30
  | 31, _ => exact len_31
  | 32, _ => exact len_32
  | 33, _ => exact len_33
  | 34, _ => exact len_34
  | 35, _ => exact len_35
  | 36, _ => exact len_36
  | 37, _ => exact len_37
  | 38, _ => exact len_38
  | 39, _ => exact len_39
  | 40, _ => exact len_40
  | 41, _ => exact len_41
  | 42, _ => exact len_42
  | 43, _ => exact len_43
  | 44, _ => exact len_44
  | 45, _ => exact len_45
  | 46, _ => exact len_46
  | 47, _ => exact len_47
  | 48, _ => exact len_48
  | 49, _ => exact len_49
theorem bitsLen_ret (x : Int) (h : bitsLenOk x = true) : Ret [none] (.int .i64) (runF (cx_bitsLen 0) Try.f8 (groupA [none] (enc (.int .u64) x)) []) (bitsLenM x) :=
  Ret.of (len_all x h) (Ret.int _ _)
noncomputable def tbK0B : FuncId → List AV → List Blk → Res := addC 8 (tspec [none] (.int .u64) [none] (.int .i64) bitsLenOk bitsLenM) tbK0
noncomputable def tbKK0B : KT := tbKK0
theorem tabK0B : Tab Try.prog tbK0B cxMd tbKK0B := Tab.addTy tabK0 tabK0 (KK := .int .u64) (R := .int .i64) (fn := Try.f8) (by kernel_rfl) (by kernel_rfl) (by kernel_rfl) (by kernel_rfl) _ (fun _ => 0) bitsLen_ret
end Go.Proofs.Ytaiokhbjjhicpaa
