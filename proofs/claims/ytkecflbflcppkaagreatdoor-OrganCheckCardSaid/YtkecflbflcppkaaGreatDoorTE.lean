/- OrganCheck: the law, plain. -/
import Derived.Test.YtkecflbflcppkaaGreatDoorTDL
import Derived.Test.YtkecflbflcppkaaGreatDoorProg
import Derived.KernelRfl
set_option linter.all false
set_option linter.unusedVariables false
set_option linter.unusedSimpArgs false
open Go Go.Abs Go.Proofs
namespace Go.Proofs.YtkecflbflcppkaaGreatDoor
noncomputable def tbTE := tbTDB
noncomputable def tbKTE : KT := tbKTDB
theorem tabTE : Tab Tryz.prog tbTE cxMd tbKTE := tabTDB
noncomputable def cx_lawCheck (F : Nat) : Cx := { P := Tryz.prog, C := tbTE, K := tbKTE, mode := cxMd, fuel := F, live := liveTab [], pin := 0, nx := true }
def lawCheck_K : CK := CK.pair KI (CK.pair KI (CK.pair KI (CK.pair KL (CK.pair (CK.slice 66 MoK) (CK.pair KI (CK.pair KI (CK.pair KI (CK.pair (CK.slice 22 KL) (CK.pair (CK.slice 22 KL) (CK.pair (CK.slice 79 (CK.slice 4 CK.bool)) (CK.slice 74 (CK.pair KL (CK.pair KI KL)))))))))))))
def lawCheck_sh : List (Option Nat) := [some 5, some 6, none]
theorem lawCheck_eq (F : Nat) (a0_0 a0_1 a0_2 : Int) (a0_3 : List Int) (a0_4 : List Mo) (a1_0 a1_1 a1_2 : Int) (a1_3 a1_4 : List (List Int)) (a1_5 : List (List Bool)) (a2 : List (List Int × Int × List Int)) : runF (cx_lawCheck F) Tryz.f6 [AV.agg [AV.int .i64 a0_0, AV.int .i64 a0_1, AV.int .i64 a0_2, AV.ro KI a0_3, AV.ro MoK a0_4], AV.agg [AV.int .i64 a1_0, AV.int .i64 a1_1, AV.int .i64 a1_2, AV.ro KL a1_3, AV.ro KL a1_4, AV.ro (CK.slice 4 CK.bool) a1_5], AV.ro (CK.pair KL (CK.pair KI KL)) a2] [] = bif rCkOk (a0_0, a0_1, a0_2, a0_3, a0_4, a1_0, a1_1, a1_2, a1_3, a1_4, a1_5, a2) then bif oCkOk (a0_0, a0_1, a0_2, a0_3, a0_4, a1_0, a1_1, a1_2, a1_3, a1_4, a1_5, a2) then bif decide ((oCkM (a0_0, a0_1, a0_2, a0_3, a0_4, a1_0, a1_1, a1_2, a1_3, a1_4, a1_5, a2)).2.2 = (rCkM (a0_0, a0_1, a0_2, a0_3, a0_4, a1_0, a1_1, a1_2, a1_3, a1_4, a1_5, a2)).2.2) then bif decide ((oCkM (a0_0, a0_1, a0_2, a0_3, a0_4, a1_0, a1_1, a1_2, a1_3, a1_4, a1_5, a2)).1 = (rCkM (a0_0, a0_1, a0_2, a0_3, a0_4, a1_0, a1_1, a1_2, a1_3, a1_4, a1_5, a2)).1) then { ok := true, val := AV.bool (decide ((oCkM (a0_0, a0_1, a0_2, a0_3, a0_4, a1_0, a1_1, a1_2, a1_3, a1_4, a1_5, a2)).2.1 = (rCkM (a0_0, a0_1, a0_2, a0_3, a0_4, a1_0, a1_1, a1_2, a1_3, a1_4, a1_5, a2)).2.1)) } else { ok := true, val := AV.bool false } else { ok := true, val := AV.bool false } else BR else BR := by kernel_rfl
noncomputable def lawCheck_run (F : Nat) (x : CT lawCheck_K) : Res := runF (cx_lawCheck F) Tryz.f6 (groupA lawCheck_sh (enc lawCheck_K x)) []
theorem lawCheck_arg (F : Nat) (a0_0 a0_1 a0_2 : Int) (a0_3 : List Int) (a0_4 : List Mo) (a1_0 a1_1 a1_2 : Int) (a1_3 a1_4 : List (List Int)) (a1_5 : List (List Bool)) (a2 : List (List Int × Int × List Int)) : lawCheck_run F (a0_0, a0_1, a0_2, a0_3, a0_4, a1_0, a1_1, a1_2, a1_3, a1_4, a1_5, a2) = runF (cx_lawCheck F) Tryz.f6 [AV.agg [AV.int .i64 a0_0, AV.int .i64 a0_1, AV.int .i64 a0_2, AV.ro KI a0_3, AV.ro MoK a0_4], AV.agg [AV.int .i64 a1_0, AV.int .i64 a1_1, AV.int .i64 a1_2, AV.ro KL a1_3, AV.ro KL a1_4, AV.ro (CK.slice 4 CK.bool) a1_5], AV.ro (CK.pair KL (CK.pair KI KL)) a2] [] := by kernel_rfl
theorem bytes3 : Tryz.prog.bytesOf 3 = 8 := by kernel_rfl
theorem bytes66 : Tryz.prog.bytesOf 66 = 32 := by kernel_rfl
theorem bytes74 : Tryz.prog.bytesOf 74 = 56 := by kernel_rfl
theorem lawCheck_plain (F : Nat) (z : CkZ) (hz : ckOk z = true) : lawCheck_run F z = { ok := true, val := AV.bool true } := by
 obtain ⟨k, w, h, c, ms, i, o, dl, n, p, l, pr⟩ := z
 refine (lawCheck_arg F k w h c ms i o dl n p l pr).trans ((lawCheck_eq F k w h c ms i o dl n p l pr).trans ?_)
 rw [show rCkOk (k, w, h, c, ms, i, o, dl, n, p, l, pr) = true from hz, show oCkOk (k, w, h, c, ms, i, o, dl, n, p, l, pr) = true from hz, show oCkM (k, w, h, c, ms, i, o, dl, n, p, l, pr) = ckM (k, w, h, c, ms, i, o, dl, n, p, l, pr) from rfl, show rCkM (k, w, h, c, ms, i, o, dl, n, p, l, pr) = ckM (k, w, h, c, ms, i, o, dl, n, p, l, pr) from rfl]
 simp only [decide_true, cond_true]
theorem lawCheck_fin (y : CT lawCheck_K) (hy : wfT Tryz.prog lawCheck_K y) : ∃ F, runF (cx_lawCheck F) Tryz.f6 (groupA lawCheck_sh (enc lawCheck_K y)) [] = ⟨true, .bool true, []⟩ := by
 obtain ⟨k, w, h, c, ms, i, o, dl, n, p, l, pr⟩ := y
 obtain ⟨_, _, _, hc, hm, _, _, _, _, _, _, hp⟩ := hy
 have h1 := wf_len (k := .int .i64) hc (by rw [bytes3]; rfl)
 have h2 := wf_len (k := MoK) hm (by rw [bytes66]; rfl)
 have h3 := wf_len (k := SitK) hp (by rw [bytes74]; rfl)
 refine ⟨0, lawCheck_plain 0 (k, w, h, c, ms, i, o, dl, n, p, l, pr) ?_⟩
 simp only [ckOk, Bool.and_eq_true, decide_eq_true_eq]
 refine ⟨⟨h1, h2, h3⟩, List.all_eq_true.2 fun s hs => ?_⟩
 obtain ⟨q1, _, q2⟩ := wf_mem (k := SitK) hp hs
 exact decide_eq_true ⟨wf_len (k := .int .i64) q1 (by rw [bytes3]; rfl), wf_len (k := .int .i64) q2 (by rw [bytes3]; rfl)⟩
end Go.Proofs.YtkecflbflcppkaaGreatDoor
