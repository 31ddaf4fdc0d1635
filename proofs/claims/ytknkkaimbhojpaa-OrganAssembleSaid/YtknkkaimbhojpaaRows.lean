/-
  No cell of these rows narrows 'for every input' (looked for: loops, veiled, ifaces, maps, wideKeys, modest, calm, conditions, laid).
  DERIVED. THE GIVEN ROWS OF THIS SEAT. 3 by the template 'for every input the law returns true; each argument reads behind the call as it read before'; 0 by the template 'total and deterministic' (their statements: YtknkkaimbhojpaaTotals.lean).
  GIVEN WITH THE SEED: the statements are not yours to turn. If you find one false, say at which input.
  Laid BY PROGRAM, IN A SANDBOX (cutbox-rows.mjs): the forced cells as the released guide's own fill.sh prints them over the translation e3641c6ce9dbdd3f… (all of the seat's roots in one cut). By AI agents, Wed Nov 11 2026. No macro, syntax, notation, axiom, sorry.
-/
import Derived.Test.YtknkkaimbhojpaaChecked
import GoSem.Claim
import GoSem.ClaimJoined
import GoSem.ClaimMapViews
import Derived.JoinedTies
import Derived.KernelRfl
namespace Go.Proofs.Ytknkkaimbhojpaa
/- THE CELL 'sum', in the pinned program and in every row, IS THE sha256 OF THE DUMP (.gsa) THAT YtknkkaimbhojpaaProg.lean LOADS. Nothing in Lean hashes anything: it is a label: what it is worth is what the hold of that sum in a sandbox is worth. -/
noncomputable def Try.pinned : Pinned := { name := "ytknkkaimbhojpaa", sum := "e3641c6ce9dbdd3f915f376a7ec3c6924bab68b0f4104c3d5cd48e0cfeaa8ac6", checked := Try.checked }
namespace Rows
def none {H : Type} : Left H := { results := [], args := [] }

/-- 'rametlaw05.OrganAssemble': WHATEVER THE INPUT: true; the input reads as it did. -/
def organAssembleSpec : ChangeSpec := { name := "organAssemble", fn := fun _ => fun
  | [d] => { results := [.lit (.bool true)], args := [d] }
  | _ => none }
def organAssembleRow : OpenClaim := { program := "ytknkkaimbhojpaa", sum := "e3641c6ce9dbdd3f915f376a7ec3c6924bab68b0f4104c3d5cd48e0cfeaa8ac6", func := "ramet/rametlaw05.OrganAssemble", spec := "organAssemble", unfollowed := true, recurses := true, plainKeys := false, apart := false }
def OrganAssembleSaid : Prop := organAssembleRow.holds Try.pinned (OpenSpec.ofChange organAssembleSpec)

/-- ITS FALSE NEIGHBOUR: 'it returns false'. Refute it at one input. -/
def organAssembleWrong : ChangeSpec := { name := "organAssemble", fn := fun _ => fun
  | [d] => { results := [.lit (.bool false)], args := [d] }
  | _ => none }
def OrganAssembleWrongFalsely : Prop := organAssembleRow.holds Try.pinned (OpenSpec.ofChange organAssembleWrong)

/-- 'rametlaw05.OrganFlow': WHATEVER THE INPUT: true; the input reads as it did. -/
def organFlowSpec : ChangeSpec := { name := "organFlow", fn := fun _ => fun
  | [d1, d2, d3] => { results := [.lit (.bool true)], args := [d1, d2, d3] }
  | _ => none }
def organFlowRow : OpenClaim := { program := "ytknkkaimbhojpaa", sum := "e3641c6ce9dbdd3f915f376a7ec3c6924bab68b0f4104c3d5cd48e0cfeaa8ac6", func := "ramet/rametlaw05.OrganFlow", spec := "organFlow", unfollowed := true, recurses := true, plainKeys := false, apart := false }
def OrganFlowSaid : Prop := organFlowRow.holds Try.pinned (OpenSpec.ofChange organFlowSpec)

/-- ITS FALSE NEIGHBOUR: 'it returns false'. Refute it at one input. -/
def organFlowWrong : ChangeSpec := { name := "organFlow", fn := fun _ => fun
  | [d1, d2, d3] => { results := [.lit (.bool false)], args := [d1, d2, d3] }
  | _ => none }
def OrganFlowWrongFalsely : Prop := organFlowRow.holds Try.pinned (OpenSpec.ofChange organFlowWrong)

/-- 'rametlaw05.OrganRigsKeep': WHATEVER THE INPUT: true; the input reads as it did. -/
def organRigsKeepSpec : ChangeSpec := { name := "organRigsKeep", fn := fun _ => fun
  | [d1, d2, d3] => { results := [.lit (.bool true)], args := [d1, d2, d3] }
  | _ => none }
def organRigsKeepRow : OpenClaim := { program := "ytknkkaimbhojpaa", sum := "e3641c6ce9dbdd3f915f376a7ec3c6924bab68b0f4104c3d5cd48e0cfeaa8ac6", func := "ramet/rametlaw05.OrganRigsKeep", spec := "organRigsKeep", unfollowed := true, recurses := true, plainKeys := false, apart := false }
def OrganRigsKeepSaid : Prop := organRigsKeepRow.holds Try.pinned (OpenSpec.ofChange organRigsKeepSpec)

/-- ITS FALSE NEIGHBOUR: 'it returns false'. Refute it at one input. -/
def organRigsKeepWrong : ChangeSpec := { name := "organRigsKeep", fn := fun _ => fun
  | [d1, d2, d3] => { results := [.lit (.bool false)], args := [d1, d2, d3] }
  | _ => none }
def OrganRigsKeepWrongFalsely : Prop := organRigsKeepRow.holds Try.pinned (OpenSpec.ofChange organRigsKeepWrong)

/- THE SECOND FORM. 'bulk': how many values and letters a reading holds, each counted each time it is reached (what is shared counts as often as it is met; a slice's spare places count too). A statement '..UptoSaid' is the law's where the arguments, and the package variables that the reading takes, are together of bulk at most 1048576: NARROWER than '..Said'. Prove '..Said' where nothing that the law and all that it calls make is longer than what came in: it says more and counts as full. Else prove '..UptoSaid'. A law counts once. -/
mutual
def uptoBulk {H : Type} : DataW H → Nat
  | .lit (.string bytes) => bytes.length + 1
  | .lit _ => 1
  | .nil => 1
  | .ptr d => uptoBulk d + 1
  | .slice elems spare => uptoBulkAll elems + uptoBulkAll spare + 1
  | .agg parts => uptoBulkAll parts + 1
  | .iface _ d => uptoBulk d + 1
  | .map entries => uptoBulkEntries entries + 1
  | .held _ => 1
def uptoBulkAll {H : Type} : List (DataW H) → Nat
  | [] => 0
  | d :: r => uptoBulk d + uptoBulkAll r
def uptoBulkEntries {H : Type} : List (Lit × DataW H) → Nat
  | [] => 0
  | x :: r => uptoBulkEntry x + uptoBulkEntries r
def uptoBulkEntry {H : Type} : Lit × DataW H → Nat
  | (.string bytes, d) => bytes.length + uptoBulk d + 1
  | (_, d) => uptoBulk d + 1
 end
def uptoSmall : (H : Type) → List (DataW H) → Bool := fun _ ds => decide (uptoBulkAll ds ≤ 1048576)
def OpenSpec.upto (s : _root_.Go.ChangeSpec) : _root_.Go.OpenSpec := { _root_.Go.OpenSpec.ofChange s with cond := some uptoSmall }

/-- 'rametlaw05.OrganAssemble', WHERE WHAT IT READS IS OF BULK AT MOST 1048576: true; the input reads as it did. -/
def organAssembleUptoRow : OpenClaim := { program := "ytknkkaimbhojpaa", sum := "e3641c6ce9dbdd3f915f376a7ec3c6924bab68b0f4104c3d5cd48e0cfeaa8ac6", func := "ramet/rametlaw05.OrganAssemble", spec := "organAssemble", unfollowed := true, recurses := true, plainKeys := false, apart := false, narrowed := true }
def OrganAssembleUptoSaid : Prop := organAssembleUptoRow.holds Try.pinned (OpenSpec.upto organAssembleSpec)

/-- 'rametlaw05.OrganFlow', WHERE WHAT IT READS IS OF BULK AT MOST 1048576: true; the input reads as it did. -/
def organFlowUptoRow : OpenClaim := { program := "ytknkkaimbhojpaa", sum := "e3641c6ce9dbdd3f915f376a7ec3c6924bab68b0f4104c3d5cd48e0cfeaa8ac6", func := "ramet/rametlaw05.OrganFlow", spec := "organFlow", unfollowed := true, recurses := true, plainKeys := false, apart := false, narrowed := true }
def OrganFlowUptoSaid : Prop := organFlowUptoRow.holds Try.pinned (OpenSpec.upto organFlowSpec)

/-- 'rametlaw05.OrganRigsKeep', WHERE WHAT IT READS IS OF BULK AT MOST 1048576: true; the input reads as it did. -/
def organRigsKeepUptoRow : OpenClaim := { program := "ytknkkaimbhojpaa", sum := "e3641c6ce9dbdd3f915f376a7ec3c6924bab68b0f4104c3d5cd48e0cfeaa8ac6", func := "ramet/rametlaw05.OrganRigsKeep", spec := "organRigsKeep", unfollowed := true, recurses := true, plainKeys := false, apart := false, narrowed := true }
def OrganRigsKeepUptoSaid : Prop := organRigsKeepUptoRow.holds Try.pinned (OpenSpec.upto organRigsKeepSpec)

end Rows
end Go.Proofs.Ytknkkaimbhojpaa
