/-
  DERIVED. GIVEN WITH THE SEED: THE CARDS: each row of YtiglikocfjhkcaaGreatDoorRows.lean that lists a variable, with what it lists TIED to the program's text (the seventh form; the later family's looks); each row that meets fmt, with fmt's text TOLD by the authors' own Lean function (tested against real Go, not proved from fmt's source: count such statements apart). THE CARD IS WHAT COUNTS. Prove the row's statement (the work); the ties are given (YtiglikocfjhkcaaGreatDoorTie.lean); close each card by the builder's one call (the guide's Derived/Test/ToyasCard.lean, 'card_holds'). Laid BY PROGRAM, IN A SANDBOX (cutbox-door.mjs). By AI agents, Wed Nov 11 2026. No macro, syntax, notation, axiom, sorry.
-/
import Derived.Test.YtiglikocfjhkcaaGreatDoorRows
import GoSem.ClaimSeven
namespace Go.Proofs.YtiglikocfjhkcaaGreatDoor
namespace Rows

/-- THE TIED CARD OF 'rametlaw05.OrganStep'. -/
def organStepCard : Claim7 := { stood := { row := organStepRow, standIns := [], harness := (true, "2a454b64ea09ba0725196e6a5b4ff5c75670bfe46080970756209e21faa37acc"), looks := false }, kinds := [], alts := [], laidByText := true, laidKinds := [.data, .data], laidTests := true, laidLooks := .later }
def OrganStepCardSaid : Prop := Claim7.holds Tryz.pinned (.plain (OpenSpec.ofChange organStepSpec)) organStepCard

/-- THE TIED CARD OF 'rametlaw05.OrganRun'. -/
def organRunCard : Claim7 := { stood := { row := organRunRow, standIns := [], harness := (true, "2a454b64ea09ba0725196e6a5b4ff5c75670bfe46080970756209e21faa37acc"), looks := false }, kinds := [], alts := [], laidByText := true, laidKinds := [.data, .data], laidTests := true, laidLooks := .later }
def OrganRunCardSaid : Prop := Claim7.holds Tryz.pinned (.plain (OpenSpec.ofChange organRunSpec)) organRunCard

/-- THE TIED CARD OF 'rametlaw05.OrganProve'. -/
def organProveCard : Claim7 := { stood := { row := organProveRow, standIns := [], harness := (true, "2a454b64ea09ba0725196e6a5b4ff5c75670bfe46080970756209e21faa37acc"), looks := false }, kinds := [], alts := [], laidByText := true, laidKinds := [.data, .data], laidTests := true, laidLooks := .later }
def OrganProveCardSaid : Prop := Claim7.holds Tryz.pinned (.plain (OpenSpec.ofChange organProveSpec)) organProveCard

/-- THE TIED CARD OF 'rametlaw05.OrganCheck'. -/
def organCheckCard : Claim7 := { stood := { row := organCheckRow, standIns := [], harness := (true, "2a454b64ea09ba0725196e6a5b4ff5c75670bfe46080970756209e21faa37acc"), looks := false }, kinds := [], alts := [], laidByText := true, laidKinds := [.data, .data], laidTests := true, laidLooks := .later }
def OrganCheckCardSaid : Prop := Claim7.holds Tryz.pinned (.plain (OpenSpec.ofChange organCheckSpec)) organCheckCard

/-- THE SECOND FORM's CARD OF 'rametlaw05.OrganStep'. -/
def organStepUptoCard : Claim7 := { stood := { row := organStepUptoRow, standIns := [], harness := (true, "2a454b64ea09ba0725196e6a5b4ff5c75670bfe46080970756209e21faa37acc"), looks := false }, kinds := [], alts := [], laidByText := true, laidKinds := [.data, .data], laidTests := true, laidLooks := .later }
def OrganStepUptoCardSaid : Prop := Claim7.holds Tryz.pinned (.plain (OpenSpec.upto organStepSpec)) organStepUptoCard

/-- THE SECOND FORM's CARD OF 'rametlaw05.OrganRun'. -/
def organRunUptoCard : Claim7 := { stood := { row := organRunUptoRow, standIns := [], harness := (true, "2a454b64ea09ba0725196e6a5b4ff5c75670bfe46080970756209e21faa37acc"), looks := false }, kinds := [], alts := [], laidByText := true, laidKinds := [.data, .data], laidTests := true, laidLooks := .later }
def OrganRunUptoCardSaid : Prop := Claim7.holds Tryz.pinned (.plain (OpenSpec.upto organRunSpec)) organRunUptoCard

/-- THE SECOND FORM's CARD OF 'rametlaw05.OrganProve'. -/
def organProveUptoCard : Claim7 := { stood := { row := organProveUptoRow, standIns := [], harness := (true, "2a454b64ea09ba0725196e6a5b4ff5c75670bfe46080970756209e21faa37acc"), looks := false }, kinds := [], alts := [], laidByText := true, laidKinds := [.data, .data], laidTests := true, laidLooks := .later }
def OrganProveUptoCardSaid : Prop := Claim7.holds Tryz.pinned (.plain (OpenSpec.upto organProveSpec)) organProveUptoCard

/-- THE SECOND FORM's CARD OF 'rametlaw05.OrganCheck'. -/
def organCheckUptoCard : Claim7 := { stood := { row := organCheckUptoRow, standIns := [], harness := (true, "2a454b64ea09ba0725196e6a5b4ff5c75670bfe46080970756209e21faa37acc"), looks := false }, kinds := [], alts := [], laidByText := true, laidKinds := [.data, .data], laidTests := true, laidLooks := .later }
def OrganCheckUptoCardSaid : Prop := Claim7.holds Tryz.pinned (.plain (OpenSpec.upto organCheckSpec)) organCheckUptoCard
end Rows
end Go.Proofs.YtiglikocfjhkcaaGreatDoor
