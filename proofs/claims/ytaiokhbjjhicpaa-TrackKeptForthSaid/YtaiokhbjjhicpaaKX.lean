/- Less. -/
import Derived.Test.YtaiokhbjjhicpaaK0
import Derived.Test.YtaiokhbjjhicpaaProg
import Derived.KernelRfl
import Derived.Test.YtaiokhbjjhicpaaKBL
set_option linter.all false
set_option linter.unusedVariables false
set_option linter.unusedSimpArgs false
open Go Go.Abs Go.Proofs
set_option linter.unusedVariables false
namespace Go.Proofs.Ytaiokhbjjhicpaa
noncomputable def tbKX : FuncId → List AV → List Blk → Res := tbK0B
noncomputable def tbKKX : KT := tbKK0B
theorem tabKX : Tab Try.prog tbKX cxMd tbKKX := tabK0B
noncomputable def cx_less (F : Nat) : Cx := { P := Try.prog, C := tbKX, K := tbKKX, mode := cxMd, fuel := F, live := liveTab [], pin := 0, nx := true }
def less_K : CK := CK.pair (CK.int IntKind.i64) (CK.int IntKind.i64)
def less_sh : List (Option Nat) := [none, none]
def less_R : CK := CK.bool
def less_re : List (Option Nat) := [none]
theorem less_eq (F : Nat) (a0 : Int) (a1 : Int) : runF (cx_less F) Try.f15 [AV.int IntKind.i64 a0, AV.int IntKind.i64 a1] [] = bif a0 != a0 then bif !a1 != a1 then { ok := true, val := AV.bool true } else { ok := true, val := AV.bool (decide (a0 < a1)) } else { ok := true, val := AV.bool (decide (a0 < a1)) } := by kernel_rfl
noncomputable def less_run (F : Nat) (x : CT less_K) : Res := runF (cx_less F) Try.f15 (groupA less_sh (enc less_K x)) []
theorem less_arg (F : Nat) (a0 : Int) (a1 : Int) : less_run F (a0, a1) = runF (cx_less F) Try.f15 [AV.int IntKind.i64 a0, AV.int IntKind.i64 a1] [] := by kernel_rfl
end Go.Proofs.Ytaiokhbjjhicpaa

open Go Go.Abs Go.Proofs
namespace Go.Proofs.Ytaiokhbjjhicpaa
def lessM : Int × Int → Bool := fun (x, y) => decide (x < y)
def lessFu : Int × Int → Nat := fun _ => 1
def lessOk : Int × Int → Bool := fun _ => true
theorem less_ret (z : Int × Int) (_ : lessOk z = true) : Ret less_re less_R (less_run (lessFu z) z) (lessM z) := by
  obtain ⟨x, y⟩ := z
  refine Ret.of ((less_arg ..).trans ((less_eq ..).trans ?_)) (Ret.bool _)
  simp only [bne_self_eq_false, cond_false, lessM]
end Go.Proofs.Ytaiokhbjjhicpaa

open Go Go.Abs Go.Proofs
set_option linter.unusedVariables false
namespace Go.Abs
def dropK (f : FuncId) (K : KT) : KT := fun g => bif g == f then Option.none else K g
theorem Tab.drop {P : Program} {C : FuncId → List AV → List Blk → Res} {mode : FuncId → List Bool} {K : KT} (f : FuncId) (h : Tab P C mode K) : Tab P C mode (dropK f K) := by
  refine ⟨h.sound, h.mixed, fun fu live pin g k hg vs H κ hok κ' => ?_⟩
  have hg' : dropK f K g = some k := hg
  unfold dropK at hg'
  cases hgf : (g == f) with
  | true => rw [hgf] at hg'; cases hg'
  | false =>
    rw [hgf] at hg'
    exact h.go fu live pin g k hg' vs H κ hok κ'
end Go.Abs
namespace Go.Proofs.Ytaiokhbjjhicpaa
noncomputable def tbKBCB : FuncId → List AV → List Blk → Res := addC 15 (tspec less_sh less_K less_re less_R lessOk lessM) tbKBB
noncomputable def tbKKBCB : KT := dropK 15 tbKKBB
theorem tabKBCB : Tab Try.prog tbKBCB cxMd tbKKBCB := Tab.addTy (Tab.drop 15 tabKBB) tabKX (KK := less_K) (R := less_R) (fn := Try.f15) (by kernel_rfl) (by kernel_rfl) (by kernel_rfl) (by kernel_rfl) _ lessFu less_ret
end Go.Proofs.Ytaiokhbjjhicpaa
