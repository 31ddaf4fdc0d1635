/-
  DERIVED. GIVEN WITH THE SEED: THE CARDS: each row of YtiglikocfjhkcaaDoorRows.lean that lists a variable, with what it lists TIED to the program's text (the seventh form; the later family's looks); each row that meets fmt, with fmt's text TOLD by the authors' own Lean function (tested against real Go, not proved from fmt's source: count such statements apart). THE CARD IS WHAT COUNTS. Prove the row's statement (the work); the ties are given (YtiglikocfjhkcaaDoorTie.lean); close each card by the builder's one call (the guide's Derived/Test/ToyasCard.lean, 'card_holds'). Laid BY PROGRAM, IN A SANDBOX (cutbox-door.mjs). By AI agents, Wed Nov 11 2026. No macro, syntax, notation, axiom, sorry.
-/
import Derived.Test.YtiglikocfjhkcaaDoorRows
import GoSem.ClaimSeven
namespace Go.Proofs.YtiglikocfjhkcaaDoor
namespace Rows

/-- THE TIED CARD OF 'rametlaw05.OrganBreaksLeast'. -/
def organBreaksLeastCard : Claim7 := { stood := { row := organBreaksLeastRow, standIns := [], harness := (true, "90905b185f2c5a341a4b3119b1c07801e07f25f25b9af92abd1afe07d748dde9"), looks := false }, kinds := [], alts := [], laidByText := true, laidKinds := [.data, .data], laidTests := true, laidLooks := .later }
def OrganBreaksLeastCardSaid : Prop := Claim7.holds Tryd.pinned (.plain (OpenSpec.ofChange organBreaksLeastSpec)) organBreaksLeastCard

/-- THE TIED CARD OF 'rametlaw05.OrganProofsSound'. -/
def organProofsSoundCard : Claim7 := { stood := { row := organProofsSoundRow, standIns := [], harness := (true, "90905b185f2c5a341a4b3119b1c07801e07f25f25b9af92abd1afe07d748dde9"), looks := false }, kinds := [], alts := [], laidByText := true, laidKinds := [.data, .data], laidTests := true, laidLooks := .later }
def OrganProofsSoundCardSaid : Prop := Claim7.holds Tryd.pinned (.plain (OpenSpec.ofChange organProofsSoundSpec)) organProofsSoundCard

/-- THE SECOND FORM's CARD OF 'rametlaw05.OrganBreaksLeast'. -/
def organBreaksLeastUptoCard : Claim7 := { stood := { row := organBreaksLeastUptoRow, standIns := [], harness := (true, "90905b185f2c5a341a4b3119b1c07801e07f25f25b9af92abd1afe07d748dde9"), looks := false }, kinds := [], alts := [], laidByText := true, laidKinds := [.data, .data], laidTests := true, laidLooks := .later }
def OrganBreaksLeastUptoCardSaid : Prop := Claim7.holds Tryd.pinned (.plain (OpenSpec.upto organBreaksLeastSpec)) organBreaksLeastUptoCard

/-- THE SECOND FORM's CARD OF 'rametlaw05.OrganProofsSound'. -/
def organProofsSoundUptoCard : Claim7 := { stood := { row := organProofsSoundUptoRow, standIns := [], harness := (true, "90905b185f2c5a341a4b3119b1c07801e07f25f25b9af92abd1afe07d748dde9"), looks := false }, kinds := [], alts := [], laidByText := true, laidKinds := [.data, .data], laidTests := true, laidLooks := .later }
def OrganProofsSoundUptoCardSaid : Prop := Claim7.holds Tryd.pinned (.plain (OpenSpec.upto organProofsSoundSpec)) organProofsSoundUptoCard
end Rows
end Go.Proofs.YtiglikocfjhkcaaDoor
