/-
  DERIVED. GIVEN WITH THE SEED: THE CARDS: each row of YtchllommcolijaaGreatDoorRows.lean that lists a variable, with what it lists TIED to the program's text (the seventh form; the later family's looks); each row that meets fmt, with fmt's text TOLD by the authors' own Lean function (tested against real Go, not proved from fmt's source: count such statements apart). THE CARD IS WHAT COUNTS. Prove the row's statement (the work); the ties are given (YtchllommcolijaaGreatDoorTie.lean); close each card by the builder's one call (the guide's Derived/Test/ToyasCard.lean, 'card_holds'). Laid BY PROGRAM, IN A SANDBOX (cutbox-door.mjs). By AI agents, Wed Nov 11 2026. No macro, syntax, notation, axiom, sorry.
-/
import Derived.Test.YtchllommcolijaaGreatDoorRows
import GoSem.ClaimSeven
namespace Go.Proofs.YtchllommcolijaaGreatDoor
namespace Rows

/-- THE TIED CARD OF 'vinculumlaw51.ElaborateTree'. -/
def elaborateTreeCard : Claim7 := { stood := { row := elaborateTreeRow, standIns := [], harness := (true, "41c0550559862fa119e98ad1ff6e1b4c5107366ad04852a88bf96dc3d4ec076b"), looks := false }, kinds := [], alts := [], laidByText := true, laidKinds := [.data, .data, .data], laidTests := true, laidLooks := .later }
def ElaborateTreeCardSaid : Prop := Claim7.holds Tryz.pinned (.plain (OpenSpec.ofChange elaborateTreeSpec)) elaborateTreeCard

/-- THE SECOND FORM's CARD OF 'vinculumlaw51.ElaborateTree'. -/
def elaborateTreeUptoCard : Claim7 := { stood := { row := elaborateTreeUptoRow, standIns := [], harness := (true, "41c0550559862fa119e98ad1ff6e1b4c5107366ad04852a88bf96dc3d4ec076b"), looks := false }, kinds := [], alts := [], laidByText := true, laidKinds := [.data, .data, .data], laidTests := true, laidLooks := .later }
def ElaborateTreeUptoCardSaid : Prop := Claim7.holds Tryz.pinned (.plain (OpenSpec.upto elaborateTreeSpec)) elaborateTreeUptoCard
end Rows
end Go.Proofs.YtchllommcolijaaGreatDoor
