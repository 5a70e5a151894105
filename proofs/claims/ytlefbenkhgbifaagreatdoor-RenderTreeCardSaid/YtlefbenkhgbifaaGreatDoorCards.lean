/-
  DERIVED. GIVEN WITH THE SEED: THE CARDS: each row of YtlefbenkhgbifaaGreatDoorRows.lean that lists a variable, with what it lists TIED to the program's text (the seventh form; the later family's looks); each row that meets fmt, with fmt's text TOLD by the authors' own Lean function (tested against real Go, not proved from fmt's source: count such statements apart). THE CARD IS WHAT COUNTS. Prove the row's statement (the work); the ties are given (YtlefbenkhgbifaaGreatDoorTie.lean); close each card by the builder's one call (the guide's Derived/Test/ToyasCard.lean, 'card_holds'). Laid BY PROGRAM, IN A SANDBOX (cutbox-door.mjs). By AI agents, Wed Nov 11 2026. No macro, syntax, notation, axiom, sorry.
-/
import Derived.Test.YtlefbenkhgbifaaGreatDoorRows
import GoSem.ClaimSeven
namespace Go.Proofs.YtlefbenkhgbifaaGreatDoor
namespace Rows

/-- THE TIED CARD OF 'vinculumlaw52.RenderTree'. -/
def renderTreeCard : Claim7 := { stood := { row := renderTreeRow, standIns := [], harness := (true, "1877e4d192a293e69d326666365f2dd1ede10e39a1568575dd60b057c83cfd62"), looks := true }, kinds := [], alts := [], laidByText := true, laidKinds := [.data, .data, .data, .sentinel, .sentinel], laidTests := true, laidLooks := .later }
def RenderTreeCardSaid : Prop := Claim7.holds Tryz.pinned (.plain (OpenSpec.ofChange renderTreeSpec)) renderTreeCard

/-- THE SECOND FORM's CARD OF 'vinculumlaw52.RenderTree'. -/
def renderTreeUptoCard : Claim7 := { stood := { row := renderTreeUptoRow, standIns := [], harness := (true, "1877e4d192a293e69d326666365f2dd1ede10e39a1568575dd60b057c83cfd62"), looks := true }, kinds := [], alts := [], laidByText := true, laidKinds := [.data, .data, .data, .sentinel, .sentinel], laidTests := true, laidLooks := .later }
def RenderTreeUptoCardSaid : Prop := Claim7.holds Tryz.pinned (.plain (OpenSpec.upto renderTreeSpec)) renderTreeUptoCard
end Rows
end Go.Proofs.YtlefbenkhgbifaaGreatDoor
