/- The loops of a function, each with what comes behind it. -/
import Derived.Test.YtkecflbflcppkaaGreatDoorA16
set_option linter.all false
set_option linter.unusedVariables false
set_option linter.unusedSimpArgs false
namespace Go.Abs
variable [Globs]

/-- The loops that stand in no other, in the text's order, with what comes behind each. -/
noncomputable def loopsOf (cx : Cx) : Code → (Ex → St → Res) → List (Code × (Ex → St → Res))
  | .seq a b, k => loopsOf cx a (seqK (fun st k => runK cx b (cutG cx b st) k) k) ++ loopsOf cx b k
  | .cond _ x y, k => loopsOf cx x k ++ loopsOf cx y k
  | .block id c, k => loopsOf cx c (blockK id k)
  | .loop c, k => [(c, k)]
  | _, _ => []
def nthLoop (l : List (Code × (Ex → St → Res))) (i : Nat) : Code × (Ex → St → Res) := nth (.skip, fun _ _ => .bad) l i
def bodyOf (fn : Func) : Code := match fn.body with | some c => c | none => .skip
/-- A loop, with n rounds at most. -/
noncomputable def Lp (cx : Cx) (p : Code × (Ex → St → Res)) (n : Nat) (st : St) : Res := loopK (runK cx p.1) (gc cx.pin (cx.live (firstRegion p.1))) p.2 n st
/-- A function's i-th loop. -/
noncomputable def outer (cx : Cx) (fn : Func) (i : Nat) : Code × (Ex → St → Res) := nthLoop (loopsOf cx (bodyOf fn) (endK cx fn)) i
/-- The i-th loop within a loop, where that has n rounds left. -/
noncomputable def inner (cx : Cx) (p : Code × (Ex → St → Res)) (n i : Nat) : Code × (Ex → St → Res) :=
  nthLoop (loopsOf cx p.1 (backK (loopK (runK cx p.1) (gc cx.pin (cx.live (firstRegion p.1))) p.2 n) (gc cx.pin (cx.live (firstRegion p.1))) p.2)) i
/-- The loop whose first region has this number. -/
def loopBy (l : List (Code × (Ex → St → Res))) (id : Nat) : Code × (Ex → St → Res) :=
  match l with
  | [] => (.skip, fun _ _ => .bad)
  | p :: r => bif firstRegion p.1 == id then p else loopBy r id
/-- The loops within a loop that has n rounds left. -/
noncomputable def innersOf (cx : Cx) (p : Code × (Ex → St → Res)) (n : Nat) : List (Code × (Ex → St → Res)) :=
  loopsOf cx p.1 (backK (loopK (runK cx p.1) (gc cx.pin (cx.live (firstRegion p.1))) p.2 n) (gc cx.pin (cx.live (firstRegion p.1))) p.2)
/-- A frame: n slots, the told ones filled. -/
def frGo : Nat → Nat → List (Nat × AV) → List AV
  | 0, _, _ => []
  | n + 1, i, [] => .junk :: frGo n (i + 1) []
  | n + 1, i, (j, v) :: l => bif i == j then v :: frGo n (i + 1) l else .junk :: frGo n (i + 1) ((j, v) :: l)
def fr (n : Nat) (l : List (Nat × AV)) : List AV := frGo n 0 l
/-- A name behind which nothing is looked at. -/
theorem hideE {α : Type} (a : α) : ∃ b, b = a := ⟨a, rfl⟩
def liveTab (l : List (Nat × List Nat)) (i : Nat) : List Nat := match l with | [] => [] | (j, s) :: r => bif i == j then s else liveTab r i
end Go.Abs
