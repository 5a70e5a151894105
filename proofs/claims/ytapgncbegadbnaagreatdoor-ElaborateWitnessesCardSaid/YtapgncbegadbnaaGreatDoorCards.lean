/-
  DERIVED. GIVEN WITH THE SEED: THE CARDS: each row of YtapgncbegadbnaaGreatDoorRows.lean that lists a variable, with what it lists TIED to the program's text (the seventh form; the later family's looks); each row that meets fmt, with fmt's text TOLD by the authors' own Lean function (tested against real Go, not proved from fmt's source: count such statements apart). THE CARD IS WHAT COUNTS. Prove the row's statement (the work); the ties are given (YtapgncbegadbnaaGreatDoorTie.lean); close each card by the builder's one call (the guide's Derived/Test/ToyasCard.lean, 'card_holds'). Laid BY PROGRAM, IN A SANDBOX (cutbox-door.mjs). By AI agents, Wed Nov 11 2026. No macro, syntax, notation, axiom, sorry.
-/
import Derived.Test.YtapgncbegadbnaaGreatDoorRows
import GoSem.ClaimSeven
namespace Go.Proofs.YtapgncbegadbnaaGreatDoor
namespace Rows

/-- THE TIED CARD OF 'vinculumlaw51.ElaborateWitnesses'. -/
def elaborateWitnessesCard : Claim7 := { stood := { row := elaborateWitnessesRow, standIns := [], harness := (true, "5f15d1ea43201bfa3147d1354f564a6b5ffcf1e85746d2830379622dc2f40e23"), looks := false }, kinds := [], alts := [], laidByText := true, laidKinds := [.data, .data, .data], laidTests := true, laidLooks := .later }
def ElaborateWitnessesCardSaid : Prop := Claim7.holds Tryz.pinned (.plain (OpenSpec.ofChange elaborateWitnessesSpec)) elaborateWitnessesCard

/-- THE SECOND FORM's CARD OF 'vinculumlaw51.ElaborateWitnesses'. -/
def elaborateWitnessesUptoCard : Claim7 := { stood := { row := elaborateWitnessesUptoRow, standIns := [], harness := (true, "5f15d1ea43201bfa3147d1354f564a6b5ffcf1e85746d2830379622dc2f40e23"), looks := false }, kinds := [], alts := [], laidByText := true, laidKinds := [.data, .data, .data], laidTests := true, laidLooks := .later }
def ElaborateWitnessesUptoCardSaid : Prop := Claim7.holds Tryz.pinned (.plain (OpenSpec.upto elaborateWitnessesSpec)) elaborateWitnessesUptoCard
end Rows
end Go.Proofs.YtapgncbegadbnaaGreatDoor
