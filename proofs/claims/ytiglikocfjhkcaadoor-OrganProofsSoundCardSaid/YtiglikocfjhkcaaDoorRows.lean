/-
  NARROWER THAN 'FOR EVERY INPUT', by the rows' own cells (each row's printed sentence says how): OrganBreaksLeast: laid · OrganProofsSound: laid.
  DERIVED. THE GIVEN ROWS OF THIS SEAT. 2 by the template 'for every input the law returns true; each argument reads behind the call as it read before'; 0 by the template 'total and deterministic' (their statements: YtiglikocfjhkcaaDoorTotals.lean).
  GIVEN WITH THE SEED: the statements are not yours to turn. If you find one false, say at which input.
  Laid BY PROGRAM, IN A SANDBOX (cutbox-rows.mjs): the forced cells as the released guide's own fill.sh prints them over the translation 17571c4d15a2555d… (all of the seat's roots in one cut). By AI agents, Wed Nov 11 2026. No macro, syntax, notation, axiom, sorry.
-/
import Derived.Test.YtiglikocfjhkcaaDoorChecked
import GoSem.Claim
import GoSem.ClaimJoined
import GoSem.ClaimMapViews
import Derived.JoinedTies
import Derived.KernelRfl
namespace Go.Proofs.YtiglikocfjhkcaaDoor
/- THE CELL 'sum', in the pinned program and in every row, IS THE sha256 OF THE DUMP (.gsa) THAT YtiglikocfjhkcaaDoorProg.lean LOADS. Nothing in Lean hashes anything: it is a label: what it is worth is what the hold of that sum in a sandbox is worth. -/
noncomputable def Tryd.pinned : Pinned := { name := "ytiglikocfjhkcaadoor", sum := "17571c4d15a2555ddea219cae1579e3a82dec8796600ddab33679eed546a6e2a", checked := Tryd.checked }
namespace Rows
def none {H : Type} : Left H := { results := [], args := [] }

/- WHAT THE LISTED PACKAGE-LEVEL VARIABLES READ AS WHEN THE CALL BEGINS. Each datum BY PROGRAM (the guide's laid-datum.mjs) off the statement by which the dump's own 'gosem.cut.vars' lays the variable. In a bare row this is a premise. The card (YtiglikocfjhkcaaDoorCards.lean) ties it to the program's text. -/
def laid_ramet_cells_growing {H : Type} : DataW H := .agg [.lit (.string []), .lit (.string [48]), .lit (.string [49]), .lit (.string [48, 48]), .lit (.string [48, 49]), .lit (.string [49, 48]), .lit (.string [49, 49]), .lit (.string [48, 48, 48])]
def laid_ramet_cells_grown {H : Type} : DataW H := .agg [.agg [.lit (.string [48, 48, 48, 48]), .lit (.int .i64 9)], .agg [.lit (.string [48, 48, 48, 49]), .lit (.int .i64 10)], .agg [.lit (.string [48, 48, 49]), .lit (.int .i64 11)], .agg [.lit (.string [48, 49, 48]), .lit (.int .i64 12)], .agg [.lit (.string [48, 49, 49]), .lit (.int .i64 17)], .agg [.lit (.string [49, 48, 48]), .lit (.int .i64 18)], .agg [.lit (.string [49, 48, 49]), .lit (.int .i64 19)], .agg [.lit (.string [49, 49, 48]), .lit (.int .i64 20)], .agg [.lit (.string [49, 49, 49]), .lit (.int .i64 25)]]

/-- 'rametlaw05.OrganBreaksLeast': WHATEVER THE INPUT: true; the input reads as it did. -/
def organBreaksLeastSpec : ChangeSpec := { name := "organBreaksLeast", fn := fun _ => fun
  | [d1, d2, d3] => { results := [.lit (.bool true)], args := [d1, d2, d3] }
  | _ => none }
def organBreaksLeastRow : OpenClaim := { program := "ytiglikocfjhkcaadoor", sum := "17571c4d15a2555ddea219cae1579e3a82dec8796600ddab33679eed546a6e2a", func := "ramet/rametlaw05.OrganBreaksLeast", spec := "organBreaksLeast", unfollowed := true, recurses := true, named := ["ramet/cells.growing", "ramet/cells.grown"], plainKeys := false, apart := false, laid := [("ramet/cells.growing", laid_ramet_cells_growing), ("ramet/cells.grown", laid_ramet_cells_grown)] }
def OrganBreaksLeastSaid : Prop := organBreaksLeastRow.holds Tryd.pinned (OpenSpec.ofChange organBreaksLeastSpec)

/-- ITS FALSE NEIGHBOUR: 'it returns false'. Refute it at one input. -/
def organBreaksLeastWrong : ChangeSpec := { name := "organBreaksLeast", fn := fun _ => fun
  | [d1, d2, d3] => { results := [.lit (.bool false)], args := [d1, d2, d3] }
  | _ => none }
def OrganBreaksLeastWrongFalsely : Prop := organBreaksLeastRow.holds Tryd.pinned (OpenSpec.ofChange organBreaksLeastWrong)

/-- 'rametlaw05.OrganProofsSound': WHATEVER THE INPUT: true; the input reads as it did. -/
def organProofsSoundSpec : ChangeSpec := { name := "organProofsSound", fn := fun _ => fun
  | [d1, d2, d3] => { results := [.lit (.bool true)], args := [d1, d2, d3] }
  | _ => none }
def organProofsSoundRow : OpenClaim := { program := "ytiglikocfjhkcaadoor", sum := "17571c4d15a2555ddea219cae1579e3a82dec8796600ddab33679eed546a6e2a", func := "ramet/rametlaw05.OrganProofsSound", spec := "organProofsSound", unfollowed := true, recurses := true, named := ["ramet/cells.growing", "ramet/cells.grown"], plainKeys := false, apart := false, laid := [("ramet/cells.growing", laid_ramet_cells_growing), ("ramet/cells.grown", laid_ramet_cells_grown)] }
def OrganProofsSoundSaid : Prop := organProofsSoundRow.holds Tryd.pinned (OpenSpec.ofChange organProofsSoundSpec)

/-- ITS FALSE NEIGHBOUR: 'it returns false'. Refute it at one input. -/
def organProofsSoundWrong : ChangeSpec := { name := "organProofsSound", fn := fun _ => fun
  | [d1, d2, d3] => { results := [.lit (.bool false)], args := [d1, d2, d3] }
  | _ => none }
def OrganProofsSoundWrongFalsely : Prop := organProofsSoundRow.holds Tryd.pinned (OpenSpec.ofChange organProofsSoundWrong)

/- THE SECOND FORM. 'bulk': how many values and letters a reading holds, each counted each time it is reached (what is shared counts as often as it is met; a slice's spare places count too). A statement '..UptoSaid' is the law's where the arguments, and the package variables that the reading takes, are together of bulk at most 1048576: NARROWER than '..Said'. Prove '..Said' where nothing that the law and all that it calls make is longer than what came in: it says more and counts as full. Else prove '..UptoSaid'. A law counts once. -/
mutual
def uptoBulk {H : Type} : DataW H → Nat
  | .lit (.string bytes) => bytes.length + 1
  | .lit _ => 1
  | .nil => 1
  | .ptr d => uptoBulk d + 1
  | .slice elems spare => uptoBulkAll elems + uptoBulkAll spare + 1
  | .agg parts => uptoBulkAll parts + 1
  | .iface _ d => uptoBulk d + 1
  | .map entries => uptoBulkEntries entries + 1
  | .held _ => 1
def uptoBulkAll {H : Type} : List (DataW H) → Nat
  | [] => 0
  | d :: r => uptoBulk d + uptoBulkAll r
def uptoBulkEntries {H : Type} : List (Lit × DataW H) → Nat
  | [] => 0
  | x :: r => uptoBulkEntry x + uptoBulkEntries r
def uptoBulkEntry {H : Type} : Lit × DataW H → Nat
  | (.string bytes, d) => bytes.length + uptoBulk d + 1
  | (_, d) => uptoBulk d + 1
 end
def uptoSmall : (H : Type) → List (DataW H) → Bool := fun _ ds => decide (uptoBulkAll ds ≤ 1048576)
def OpenSpec.upto (s : _root_.Go.ChangeSpec) : _root_.Go.OpenSpec := { _root_.Go.OpenSpec.ofChange s with cond := some uptoSmall }

/-- 'rametlaw05.OrganBreaksLeast', WHERE WHAT IT READS IS OF BULK AT MOST 1048576: true; the input reads as it did. -/
def organBreaksLeastUptoRow : OpenClaim := { program := "ytiglikocfjhkcaadoor", sum := "17571c4d15a2555ddea219cae1579e3a82dec8796600ddab33679eed546a6e2a", func := "ramet/rametlaw05.OrganBreaksLeast", spec := "organBreaksLeast", unfollowed := true, recurses := true, named := ["ramet/cells.growing", "ramet/cells.grown"], plainKeys := false, apart := false, laid := [("ramet/cells.growing", laid_ramet_cells_growing), ("ramet/cells.grown", laid_ramet_cells_grown)], narrowed := true }
def OrganBreaksLeastUptoSaid : Prop := organBreaksLeastUptoRow.holds Tryd.pinned (OpenSpec.upto organBreaksLeastSpec)

/-- 'rametlaw05.OrganProofsSound', WHERE WHAT IT READS IS OF BULK AT MOST 1048576: true; the input reads as it did. -/
def organProofsSoundUptoRow : OpenClaim := { program := "ytiglikocfjhkcaadoor", sum := "17571c4d15a2555ddea219cae1579e3a82dec8796600ddab33679eed546a6e2a", func := "ramet/rametlaw05.OrganProofsSound", spec := "organProofsSound", unfollowed := true, recurses := true, named := ["ramet/cells.growing", "ramet/cells.grown"], plainKeys := false, apart := false, laid := [("ramet/cells.growing", laid_ramet_cells_growing), ("ramet/cells.grown", laid_ramet_cells_grown)], narrowed := true }
def OrganProofsSoundUptoSaid : Prop := organProofsSoundUptoRow.holds Tryd.pinned (OpenSpec.upto organProofsSoundSpec)

end Rows
end Go.Proofs.YtiglikocfjhkcaaDoor
