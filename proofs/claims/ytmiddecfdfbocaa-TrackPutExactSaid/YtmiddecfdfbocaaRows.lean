/-
  No cell of these rows narrows 'for every input' (looked for: loops, veiled, ifaces, maps, wideKeys, modest, calm, conditions, laid).
  DERIVED. THE GIVEN ROWS OF THIS SEAT. 4 by the template 'for every input the law returns true; each argument reads behind the call as it read before'; 0 by the template 'total and deterministic' (their statements: YtmiddecfdfbocaaTotals.lean).
  GIVEN WITH THE SEED: the statements are not yours to turn. If you find one false, say at which input.
  Laid BY PROGRAM, IN A SANDBOX (cutbox-rows.mjs): the forced cells as the released guide's own fill.sh prints them over the translation 4b0957c1e120582e… (all of the seat's roots in one cut). By AI agents, Wed Nov 11 2026. No macro, syntax, notation, axiom, sorry.
-/
import Derived.Test.YtmiddecfdfbocaaChecked
import GoSem.Claim
import GoSem.ClaimJoined
import GoSem.ClaimMapViews
import Derived.JoinedTies
import Derived.KernelRfl
namespace Go.Proofs.Ytmiddecfdfbocaa
/- THE CELL 'sum', in the pinned program and in every row, IS THE sha256 OF THE DUMP (.gsa) THAT YtmiddecfdfbocaaProg.lean LOADS. Nothing in Lean hashes anything: it is a label: what it is worth is what the hold of that sum in a sandbox is worth. -/
noncomputable def Try.pinned : Pinned := { name := "ytmiddecfdfbocaa", sum := "4b0957c1e120582edea53293d9ed5bd5bf59c521307aa5d129e21dc0d3a42de8", checked := Try.checked }
namespace Rows
def none {H : Type} : Left H := { results := [], args := [] }

/-- 'rametlaw10.TrackValidExact': WHATEVER THE INPUT: true; the input reads as it did. -/
def trackValidExactSpec : ChangeSpec := { name := "trackValidExact", fn := fun _ => fun
  | [d] => { results := [.lit (.bool true)], args := [d] }
  | _ => none }
def trackValidExactRow : OpenClaim := { program := "ytmiddecfdfbocaa", sum := "4b0957c1e120582edea53293d9ed5bd5bf59c521307aa5d129e21dc0d3a42de8", func := "ramet/rametlaw10.TrackValidExact", spec := "trackValidExact", unfollowed := true, recurses := true, apart := false }
def TrackValidExactSaid : Prop := trackValidExactRow.holds Try.pinned (OpenSpec.ofChange trackValidExactSpec)

/-- ITS FALSE NEIGHBOUR: 'it returns false'. Refute it at one input. -/
def trackValidExactWrong : ChangeSpec := { name := "trackValidExact", fn := fun _ => fun
  | [d] => { results := [.lit (.bool false)], args := [d] }
  | _ => none }
def TrackValidExactWrongFalsely : Prop := trackValidExactRow.holds Try.pinned (OpenSpec.ofChange trackValidExactWrong)

/-- 'rametlaw10.TrackBeginExact': WHATEVER THE INPUT: true; the input reads as it did. -/
def trackBeginExactSpec : ChangeSpec := { name := "trackBeginExact", fn := fun _ => fun
  | [d1, d2] => { results := [.lit (.bool true)], args := [d1, d2] }
  | _ => none }
def trackBeginExactRow : OpenClaim := { program := "ytmiddecfdfbocaa", sum := "4b0957c1e120582edea53293d9ed5bd5bf59c521307aa5d129e21dc0d3a42de8", func := "ramet/rametlaw10.TrackBeginExact", spec := "trackBeginExact", unfollowed := true, recurses := true, apart := false }
def TrackBeginExactSaid : Prop := trackBeginExactRow.holds Try.pinned (OpenSpec.ofChange trackBeginExactSpec)

/-- ITS FALSE NEIGHBOUR: 'it returns false'. Refute it at one input. -/
def trackBeginExactWrong : ChangeSpec := { name := "trackBeginExact", fn := fun _ => fun
  | [d1, d2] => { results := [.lit (.bool false)], args := [d1, d2] }
  | _ => none }
def TrackBeginExactWrongFalsely : Prop := trackBeginExactRow.holds Try.pinned (OpenSpec.ofChange trackBeginExactWrong)

/-- 'rametlaw10.TrackPutExact': WHATEVER THE INPUT: true; the input reads as it did. -/
def trackPutExactSpec : ChangeSpec := { name := "trackPutExact", fn := fun _ => fun
  | [d1, d2, d3, d4] => { results := [.lit (.bool true)], args := [d1, d2, d3, d4] }
  | _ => none }
def trackPutExactRow : OpenClaim := { program := "ytmiddecfdfbocaa", sum := "4b0957c1e120582edea53293d9ed5bd5bf59c521307aa5d129e21dc0d3a42de8", func := "ramet/rametlaw10.TrackPutExact", spec := "trackPutExact", unfollowed := true, recurses := true, apart := false }
def TrackPutExactSaid : Prop := trackPutExactRow.holds Try.pinned (OpenSpec.ofChange trackPutExactSpec)

/-- ITS FALSE NEIGHBOUR: 'it returns false'. Refute it at one input. -/
def trackPutExactWrong : ChangeSpec := { name := "trackPutExact", fn := fun _ => fun
  | [d1, d2, d3, d4] => { results := [.lit (.bool false)], args := [d1, d2, d3, d4] }
  | _ => none }
def TrackPutExactWrongFalsely : Prop := trackPutExactRow.holds Try.pinned (OpenSpec.ofChange trackPutExactWrong)

/-- 'rametlaw10.TrackKeptForth': WHATEVER THE INPUT: true; the input reads as it did. -/
def trackKeptForthSpec : ChangeSpec := { name := "trackKeptForth", fn := fun _ => fun
  | [d] => { results := [.lit (.bool true)], args := [d] }
  | _ => none }
def trackKeptForthRow : OpenClaim := { program := "ytmiddecfdfbocaa", sum := "4b0957c1e120582edea53293d9ed5bd5bf59c521307aa5d129e21dc0d3a42de8", func := "ramet/rametlaw10.TrackKeptForth", spec := "trackKeptForth", recurses := true, apart := false }
def TrackKeptForthSaid : Prop := trackKeptForthRow.holds Try.pinned (OpenSpec.ofChange trackKeptForthSpec)

/-- ITS FALSE NEIGHBOUR: 'it returns false'. Refute it at one input. -/
def trackKeptForthWrong : ChangeSpec := { name := "trackKeptForth", fn := fun _ => fun
  | [d] => { results := [.lit (.bool false)], args := [d] }
  | _ => none }
def TrackKeptForthWrongFalsely : Prop := trackKeptForthRow.holds Try.pinned (OpenSpec.ofChange trackKeptForthWrong)

/- THE SECOND FORM. 'bulk': how many values and letters a reading holds, each counted each time it is reached (what is shared counts as often as it is met; a slice's spare places count too). A statement '..UptoSaid' is the law's where the arguments, and the package variables that the reading takes, are together of bulk at most 1048576: NARROWER than '..Said'. Prove '..Said' where nothing that the law and all that it calls make is longer than what came in: it says more and counts as full. Else prove '..UptoSaid'. A law counts once. -/
mutual
def uptoBulk {H : Type} : DataW H → Nat
  | .lit (.string bytes) => bytes.length + 1
  | .lit _ => 1
  | .nil => 1
  | .ptr d => uptoBulk d + 1
  | .slice elems spare => uptoBulkAll elems + uptoBulkAll spare + 1
  | .agg parts => uptoBulkAll parts + 1
  | .iface _ d => uptoBulk d + 1
  | .map entries => uptoBulkEntries entries + 1
  | .held _ => 1
def uptoBulkAll {H : Type} : List (DataW H) → Nat
  | [] => 0
  | d :: r => uptoBulk d + uptoBulkAll r
def uptoBulkEntries {H : Type} : List (Lit × DataW H) → Nat
  | [] => 0
  | x :: r => uptoBulkEntry x + uptoBulkEntries r
def uptoBulkEntry {H : Type} : Lit × DataW H → Nat
  | (.string bytes, d) => bytes.length + uptoBulk d + 1
  | (_, d) => uptoBulk d + 1
 end
def uptoSmall : (H : Type) → List (DataW H) → Bool := fun _ ds => decide (uptoBulkAll ds ≤ 1048576)
def OpenSpec.upto (s : _root_.Go.ChangeSpec) : _root_.Go.OpenSpec := { _root_.Go.OpenSpec.ofChange s with cond := some uptoSmall }

/-- 'rametlaw10.TrackValidExact', WHERE WHAT IT READS IS OF BULK AT MOST 1048576: true; the input reads as it did. -/
def trackValidExactUptoRow : OpenClaim := { program := "ytmiddecfdfbocaa", sum := "4b0957c1e120582edea53293d9ed5bd5bf59c521307aa5d129e21dc0d3a42de8", func := "ramet/rametlaw10.TrackValidExact", spec := "trackValidExact", unfollowed := true, recurses := true, apart := false, narrowed := true }
def TrackValidExactUptoSaid : Prop := trackValidExactUptoRow.holds Try.pinned (OpenSpec.upto trackValidExactSpec)

/-- 'rametlaw10.TrackBeginExact', WHERE WHAT IT READS IS OF BULK AT MOST 1048576: true; the input reads as it did. -/
def trackBeginExactUptoRow : OpenClaim := { program := "ytmiddecfdfbocaa", sum := "4b0957c1e120582edea53293d9ed5bd5bf59c521307aa5d129e21dc0d3a42de8", func := "ramet/rametlaw10.TrackBeginExact", spec := "trackBeginExact", unfollowed := true, recurses := true, apart := false, narrowed := true }
def TrackBeginExactUptoSaid : Prop := trackBeginExactUptoRow.holds Try.pinned (OpenSpec.upto trackBeginExactSpec)

/-- 'rametlaw10.TrackPutExact', WHERE WHAT IT READS IS OF BULK AT MOST 1048576: true; the input reads as it did. -/
def trackPutExactUptoRow : OpenClaim := { program := "ytmiddecfdfbocaa", sum := "4b0957c1e120582edea53293d9ed5bd5bf59c521307aa5d129e21dc0d3a42de8", func := "ramet/rametlaw10.TrackPutExact", spec := "trackPutExact", unfollowed := true, recurses := true, apart := false, narrowed := true }
def TrackPutExactUptoSaid : Prop := trackPutExactUptoRow.holds Try.pinned (OpenSpec.upto trackPutExactSpec)

/-- 'rametlaw10.TrackKeptForth', WHERE WHAT IT READS IS OF BULK AT MOST 1048576: true; the input reads as it did. -/
def trackKeptForthUptoRow : OpenClaim := { program := "ytmiddecfdfbocaa", sum := "4b0957c1e120582edea53293d9ed5bd5bf59c521307aa5d129e21dc0d3a42de8", func := "ramet/rametlaw10.TrackKeptForth", spec := "trackKeptForth", recurses := true, apart := false, narrowed := true }
def TrackKeptForthUptoSaid : Prop := trackKeptForthUptoRow.holds Try.pinned (OpenSpec.upto trackKeptForthSpec)

end Rows
end Go.Proofs.Ytmiddecfdfbocaa
