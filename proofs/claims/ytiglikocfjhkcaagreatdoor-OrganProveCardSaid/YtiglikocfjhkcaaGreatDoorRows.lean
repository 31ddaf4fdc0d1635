/-
  NARROWER THAN 'FOR EVERY INPUT', by the rows' own cells (each row's printed sentence says how): OrganStep: laid · OrganRun: laid · OrganProve: laid · OrganCheck: laid.
  DERIVED. THE GIVEN ROWS OF THIS SEAT. 4 by the template 'for every input the law returns true; each argument reads behind the call as it read before'; 0 by the template 'total and deterministic' (their statements: YtiglikocfjhkcaaGreatDoorTotals.lean).
  GIVEN WITH THE SEED: the statements are not yours to turn. If you find one false, say at which input.
  Laid BY PROGRAM, IN A SANDBOX (cutbox-rows.mjs): the forced cells as the released guide's own fill.sh prints them over the translation 5a2b7a064cbca318… (all of the seat's roots in one cut). By AI agents, Wed Nov 11 2026. No macro, syntax, notation, axiom, sorry.
-/
import Derived.Test.YtiglikocfjhkcaaGreatDoorChecked
import GoSem.Claim
import GoSem.ClaimJoined
import GoSem.ClaimMapViews
import Derived.JoinedTies
import Derived.KernelRfl
namespace Go.Proofs.YtiglikocfjhkcaaGreatDoor
/- THE CELL 'sum', in the pinned program and in every row, IS THE sha256 OF THE DUMP (.gsa) THAT YtiglikocfjhkcaaGreatDoorProg.lean LOADS. Nothing in Lean hashes anything: it is a label: what it is worth is what the hold of that sum in a sandbox is worth. -/
noncomputable def Tryz.pinned : Pinned := { name := "ytiglikocfjhkcaagreatdoor", sum := "5a2b7a064cbca318af1edb10c49cdeff11218c8d0ab3ef591c5c6cb5c44ad260", checked := Tryz.checked }
namespace Rows
def none {H : Type} : Left H := { results := [], args := [] }

/- WHAT THE LISTED PACKAGE-LEVEL VARIABLES READ AS WHEN THE CALL BEGINS. Each datum BY PROGRAM (the guide's laid-datum.mjs) off the statement by which the dump's own 'gosem.cut.vars' lays the variable. In a bare row this is a premise. The card (YtiglikocfjhkcaaGreatDoorCards.lean) ties it to the program's text. -/
def laid_ramet_cells_growing {H : Type} : DataW H := .agg [.lit (.string []), .lit (.string [48]), .lit (.string [49]), .lit (.string [48, 48]), .lit (.string [48, 49]), .lit (.string [49, 48]), .lit (.string [49, 49]), .lit (.string [48, 48, 48])]
def laid_ramet_cells_grown {H : Type} : DataW H := .agg [.agg [.lit (.string [48, 48, 48, 48]), .lit (.int .i64 9)], .agg [.lit (.string [48, 48, 48, 49]), .lit (.int .i64 10)], .agg [.lit (.string [48, 48, 49]), .lit (.int .i64 11)], .agg [.lit (.string [48, 49, 48]), .lit (.int .i64 12)], .agg [.lit (.string [48, 49, 49]), .lit (.int .i64 17)], .agg [.lit (.string [49, 48, 48]), .lit (.int .i64 18)], .agg [.lit (.string [49, 48, 49]), .lit (.int .i64 19)], .agg [.lit (.string [49, 49, 48]), .lit (.int .i64 20)], .agg [.lit (.string [49, 49, 49]), .lit (.int .i64 25)]]

/-- 'rametlaw05.OrganStep': WHATEVER THE INPUT: true; the input reads as it did. -/
def organStepSpec : ChangeSpec := { name := "organStep", fn := fun _ => fun
  | [d1, d2] => { results := [.lit (.bool true)], args := [d1, d2] }
  | _ => none }
def organStepRow : OpenClaim := { program := "ytiglikocfjhkcaagreatdoor", sum := "5a2b7a064cbca318af1edb10c49cdeff11218c8d0ab3ef591c5c6cb5c44ad260", func := "ramet/rametlaw05.OrganStep", spec := "organStep", unfollowed := true, recurses := true, named := ["ramet/cells.growing", "ramet/cells.grown"], plainKeys := false, apart := false, laid := [("ramet/cells.growing", laid_ramet_cells_growing), ("ramet/cells.grown", laid_ramet_cells_grown)] }
def OrganStepSaid : Prop := organStepRow.holds Tryz.pinned (OpenSpec.ofChange organStepSpec)

/-- ITS FALSE NEIGHBOUR: 'it returns false'. Refute it at one input. -/
def organStepWrong : ChangeSpec := { name := "organStep", fn := fun _ => fun
  | [d1, d2] => { results := [.lit (.bool false)], args := [d1, d2] }
  | _ => none }
def OrganStepWrongFalsely : Prop := organStepRow.holds Tryz.pinned (OpenSpec.ofChange organStepWrong)

/-- 'rametlaw05.OrganRun': WHATEVER THE INPUT: true; the input reads as it did. -/
def organRunSpec : ChangeSpec := { name := "organRun", fn := fun _ => fun
  | [d1, d2, d3] => { results := [.lit (.bool true)], args := [d1, d2, d3] }
  | _ => none }
def organRunRow : OpenClaim := { program := "ytiglikocfjhkcaagreatdoor", sum := "5a2b7a064cbca318af1edb10c49cdeff11218c8d0ab3ef591c5c6cb5c44ad260", func := "ramet/rametlaw05.OrganRun", spec := "organRun", unfollowed := true, recurses := true, named := ["ramet/cells.growing", "ramet/cells.grown"], plainKeys := false, apart := false, laid := [("ramet/cells.growing", laid_ramet_cells_growing), ("ramet/cells.grown", laid_ramet_cells_grown)] }
def OrganRunSaid : Prop := organRunRow.holds Tryz.pinned (OpenSpec.ofChange organRunSpec)

/-- ITS FALSE NEIGHBOUR: 'it returns false'. Refute it at one input. -/
def organRunWrong : ChangeSpec := { name := "organRun", fn := fun _ => fun
  | [d1, d2, d3] => { results := [.lit (.bool false)], args := [d1, d2, d3] }
  | _ => none }
def OrganRunWrongFalsely : Prop := organRunRow.holds Tryz.pinned (OpenSpec.ofChange organRunWrong)

/-- 'rametlaw05.OrganProve': WHATEVER THE INPUT: true; the input reads as it did. -/
def organProveSpec : ChangeSpec := { name := "organProve", fn := fun _ => fun
  | [d1, d2] => { results := [.lit (.bool true)], args := [d1, d2] }
  | _ => none }
def organProveRow : OpenClaim := { program := "ytiglikocfjhkcaagreatdoor", sum := "5a2b7a064cbca318af1edb10c49cdeff11218c8d0ab3ef591c5c6cb5c44ad260", func := "ramet/rametlaw05.OrganProve", spec := "organProve", unfollowed := true, recurses := true, named := ["ramet/cells.growing", "ramet/cells.grown"], plainKeys := false, apart := false, laid := [("ramet/cells.growing", laid_ramet_cells_growing), ("ramet/cells.grown", laid_ramet_cells_grown)] }
def OrganProveSaid : Prop := organProveRow.holds Tryz.pinned (OpenSpec.ofChange organProveSpec)

/-- ITS FALSE NEIGHBOUR: 'it returns false'. Refute it at one input. -/
def organProveWrong : ChangeSpec := { name := "organProve", fn := fun _ => fun
  | [d1, d2] => { results := [.lit (.bool false)], args := [d1, d2] }
  | _ => none }
def OrganProveWrongFalsely : Prop := organProveRow.holds Tryz.pinned (OpenSpec.ofChange organProveWrong)

/-- 'rametlaw05.OrganCheck': WHATEVER THE INPUT: true; the input reads as it did. -/
def organCheckSpec : ChangeSpec := { name := "organCheck", fn := fun _ => fun
  | [d1, d2, d3] => { results := [.lit (.bool true)], args := [d1, d2, d3] }
  | _ => none }
def organCheckRow : OpenClaim := { program := "ytiglikocfjhkcaagreatdoor", sum := "5a2b7a064cbca318af1edb10c49cdeff11218c8d0ab3ef591c5c6cb5c44ad260", func := "ramet/rametlaw05.OrganCheck", spec := "organCheck", unfollowed := true, recurses := true, named := ["ramet/cells.growing", "ramet/cells.grown"], plainKeys := false, apart := false, laid := [("ramet/cells.growing", laid_ramet_cells_growing), ("ramet/cells.grown", laid_ramet_cells_grown)] }
def OrganCheckSaid : Prop := organCheckRow.holds Tryz.pinned (OpenSpec.ofChange organCheckSpec)

/-- ITS FALSE NEIGHBOUR: 'it returns false'. Refute it at one input. -/
def organCheckWrong : ChangeSpec := { name := "organCheck", fn := fun _ => fun
  | [d1, d2, d3] => { results := [.lit (.bool false)], args := [d1, d2, d3] }
  | _ => none }
def OrganCheckWrongFalsely : Prop := organCheckRow.holds Tryz.pinned (OpenSpec.ofChange organCheckWrong)

/- THE SECOND FORM. 'bulk': how many values and letters a reading holds, each counted each time it is reached (what is shared counts as often as it is met; a slice's spare places count too). A statement '..UptoSaid' is the law's where the arguments, and the package variables that the reading takes, are together of bulk at most 1048576: NARROWER than '..Said'. Prove '..Said' where nothing that the law and all that it calls make is longer than what came in: it says more and counts as full. Else prove '..UptoSaid'. A law counts once. -/
mutual
def uptoBulk {H : Type} : DataW H → Nat
  | .lit (.string bytes) => bytes.length + 1
  | .lit _ => 1
  | .nil => 1
  | .ptr d => uptoBulk d + 1
  | .slice elems spare => uptoBulkAll elems + uptoBulkAll spare + 1
  | .agg parts => uptoBulkAll parts + 1
  | .iface _ d => uptoBulk d + 1
  | .map entries => uptoBulkEntries entries + 1
  | .held _ => 1
def uptoBulkAll {H : Type} : List (DataW H) → Nat
  | [] => 0
  | d :: r => uptoBulk d + uptoBulkAll r
def uptoBulkEntries {H : Type} : List (Lit × DataW H) → Nat
  | [] => 0
  | x :: r => uptoBulkEntry x + uptoBulkEntries r
def uptoBulkEntry {H : Type} : Lit × DataW H → Nat
  | (.string bytes, d) => bytes.length + uptoBulk d + 1
  | (_, d) => uptoBulk d + 1
 end
def uptoSmall : (H : Type) → List (DataW H) → Bool := fun _ ds => decide (uptoBulkAll ds ≤ 1048576)
def OpenSpec.upto (s : _root_.Go.ChangeSpec) : _root_.Go.OpenSpec := { _root_.Go.OpenSpec.ofChange s with cond := some uptoSmall }

/-- 'rametlaw05.OrganStep', WHERE WHAT IT READS IS OF BULK AT MOST 1048576: true; the input reads as it did. -/
def organStepUptoRow : OpenClaim := { program := "ytiglikocfjhkcaagreatdoor", sum := "5a2b7a064cbca318af1edb10c49cdeff11218c8d0ab3ef591c5c6cb5c44ad260", func := "ramet/rametlaw05.OrganStep", spec := "organStep", unfollowed := true, recurses := true, named := ["ramet/cells.growing", "ramet/cells.grown"], plainKeys := false, apart := false, laid := [("ramet/cells.growing", laid_ramet_cells_growing), ("ramet/cells.grown", laid_ramet_cells_grown)], narrowed := true }
def OrganStepUptoSaid : Prop := organStepUptoRow.holds Tryz.pinned (OpenSpec.upto organStepSpec)

/-- 'rametlaw05.OrganRun', WHERE WHAT IT READS IS OF BULK AT MOST 1048576: true; the input reads as it did. -/
def organRunUptoRow : OpenClaim := { program := "ytiglikocfjhkcaagreatdoor", sum := "5a2b7a064cbca318af1edb10c49cdeff11218c8d0ab3ef591c5c6cb5c44ad260", func := "ramet/rametlaw05.OrganRun", spec := "organRun", unfollowed := true, recurses := true, named := ["ramet/cells.growing", "ramet/cells.grown"], plainKeys := false, apart := false, laid := [("ramet/cells.growing", laid_ramet_cells_growing), ("ramet/cells.grown", laid_ramet_cells_grown)], narrowed := true }
def OrganRunUptoSaid : Prop := organRunUptoRow.holds Tryz.pinned (OpenSpec.upto organRunSpec)

/-- 'rametlaw05.OrganProve', WHERE WHAT IT READS IS OF BULK AT MOST 1048576: true; the input reads as it did. -/
def organProveUptoRow : OpenClaim := { program := "ytiglikocfjhkcaagreatdoor", sum := "5a2b7a064cbca318af1edb10c49cdeff11218c8d0ab3ef591c5c6cb5c44ad260", func := "ramet/rametlaw05.OrganProve", spec := "organProve", unfollowed := true, recurses := true, named := ["ramet/cells.growing", "ramet/cells.grown"], plainKeys := false, apart := false, laid := [("ramet/cells.growing", laid_ramet_cells_growing), ("ramet/cells.grown", laid_ramet_cells_grown)], narrowed := true }
def OrganProveUptoSaid : Prop := organProveUptoRow.holds Tryz.pinned (OpenSpec.upto organProveSpec)

/-- 'rametlaw05.OrganCheck', WHERE WHAT IT READS IS OF BULK AT MOST 1048576: true; the input reads as it did. -/
def organCheckUptoRow : OpenClaim := { program := "ytiglikocfjhkcaagreatdoor", sum := "5a2b7a064cbca318af1edb10c49cdeff11218c8d0ab3ef591c5c6cb5c44ad260", func := "ramet/rametlaw05.OrganCheck", spec := "organCheck", unfollowed := true, recurses := true, named := ["ramet/cells.growing", "ramet/cells.grown"], plainKeys := false, apart := false, laid := [("ramet/cells.growing", laid_ramet_cells_growing), ("ramet/cells.grown", laid_ramet_cells_grown)], narrowed := true }
def OrganCheckUptoSaid : Prop := organCheckUptoRow.holds Tryz.pinned (OpenSpec.upto organCheckSpec)

end Rows
end Go.Proofs.YtiglikocfjhkcaaGreatDoor
