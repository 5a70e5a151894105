/-
  DERIVED. GIVEN WITH THE SEED: THE CARDS: each row of YtadcldfbmkfkaaaGreatDoorRows.lean that lists a variable, with what it lists TIED to the program's text (the seventh form; the later family's looks); each row that meets fmt, with fmt's text TOLD by the authors' own Lean function (tested against real Go, not proved from fmt's source: count such statements apart). THE CARD IS WHAT COUNTS. Prove the row's statement (the work); the ties are given (YtadcldfbmkfkaaaGreatDoorTie.lean); close each card by the builder's one call (the guide's Derived/Test/ToyasCard.lean, 'card_holds'). Laid BY PROGRAM, IN A SANDBOX (cutbox-door.mjs). By AI agents, Wed Nov 11 2026. No macro, syntax, notation, axiom, sorry.
-/
import Derived.Test.YtadcldfbmkfkaaaGreatDoorRows
import GoSem.ClaimSeven
namespace Go.Proofs.YtadcldfbmkfkaaaGreatDoor
namespace Rows

/-- THE TIED CARD OF 'vinculumlaw51.ElaborateTree'. -/
def elaborateTreeCard : Claim7 := { stood := { row := elaborateTreeRow, standIns := [], harness := (true, "f881f5d854970f85b1e8adb2263bb95f6afe17840423779969cfcf338e86900a"), looks := true }, kinds := [], alts := [], laidByText := true, laidKinds := [.data, .data, .data], laidTests := true, laidLooks := .later }
def ElaborateTreeCardSaid : Prop := Claim7.holds Tryz.pinned (.plain (OpenSpec.ofChange elaborateTreeSpec)) elaborateTreeCard

/-- THE TIED CARD OF 'vinculumlaw51.ElaborateWitnesses'. -/
def elaborateWitnessesCard : Claim7 := { stood := { row := elaborateWitnessesRow, standIns := [], harness := (true, "f881f5d854970f85b1e8adb2263bb95f6afe17840423779969cfcf338e86900a"), looks := true }, kinds := [], alts := [], laidByText := true, laidKinds := [.data, .data, .data], laidTests := true, laidLooks := .later }
def ElaborateWitnessesCardSaid : Prop := Claim7.holds Tryz.pinned (.plain (OpenSpec.ofChange elaborateWitnessesSpec)) elaborateWitnessesCard

/-- THE TIED CARD OF 'vinculumlaw52.RenderTree'. -/
def renderTreeCard : Claim7 := { stood := { row := renderTreeRow, standIns := [], harness := (true, "f881f5d854970f85b1e8adb2263bb95f6afe17840423779969cfcf338e86900a"), looks := true }, kinds := [], alts := [], laidByText := true, laidKinds := [.data, .data, .data, .sentinel, .sentinel], laidTests := true, laidLooks := .later }
def RenderTreeCardSaid : Prop := Claim7.holds Tryz.pinned (.plain (OpenSpec.ofChange renderTreeSpec)) renderTreeCard

/-- THE TIED CARD OF 'vinculumlaw52.RenderInverse'. -/
def renderInverseCard : Claim7 := { stood := { row := renderInverseRow, standIns := [], harness := (true, "f881f5d854970f85b1e8adb2263bb95f6afe17840423779969cfcf338e86900a"), looks := true }, kinds := [], alts := [], laidByText := true, laidKinds := [.data, .data, .data, .sentinel, .sentinel], laidTests := true, laidLooks := .later }
def RenderInverseCardSaid : Prop := Claim7.holds Tryz.pinned (.plain (OpenSpec.ofChange renderInverseSpec)) renderInverseCard

/-- THE TIED CARD OF 'vinculumlaw52.RenderMeans'. -/
def renderMeansCard : Claim7 := { stood := { row := renderMeansRow, standIns := [], harness := (true, "f881f5d854970f85b1e8adb2263bb95f6afe17840423779969cfcf338e86900a"), looks := true }, kinds := [], alts := [], laidByText := true, laidKinds := [.data, .data, .data, .sentinel, .sentinel], laidTests := true, laidLooks := .later }
def RenderMeansCardSaid : Prop := Claim7.holds Tryz.pinned (.plain (OpenSpec.ofChange renderMeansSpec)) renderMeansCard

/-- THE TIED CARD OF 'vinculumlaw52.RenderFirst'. -/
def renderFirstCard : Claim7 := { stood := { row := renderFirstRow, standIns := [], harness := (true, "f881f5d854970f85b1e8adb2263bb95f6afe17840423779969cfcf338e86900a"), looks := true }, kinds := [], alts := [], laidByText := true, laidKinds := [.data, .data, .data, .sentinel, .sentinel], laidTests := true, laidLooks := .later }
def RenderFirstCardSaid : Prop := Claim7.holds Tryz.pinned (.plain (OpenSpec.ofChange renderFirstSpec)) renderFirstCard

/-- THE TIED CARD OF 'vinculumlaw52.RenderBrackets'. -/
def renderBracketsCard : Claim7 := { stood := { row := renderBracketsRow, standIns := [], harness := (true, "f881f5d854970f85b1e8adb2263bb95f6afe17840423779969cfcf338e86900a"), looks := true }, kinds := [], alts := [], laidByText := true, laidKinds := [.data, .data, .data, .sentinel, .sentinel], laidTests := true, laidLooks := .later }
def RenderBracketsCardSaid : Prop := Claim7.holds Tryz.pinned (.plain (OpenSpec.ofChange renderBracketsSpec)) renderBracketsCard

/-- THE SECOND FORM's CARD OF 'vinculumlaw51.ElaborateTree'. -/
def elaborateTreeUptoCard : Claim7 := { stood := { row := elaborateTreeUptoRow, standIns := [], harness := (true, "f881f5d854970f85b1e8adb2263bb95f6afe17840423779969cfcf338e86900a"), looks := true }, kinds := [], alts := [], laidByText := true, laidKinds := [.data, .data, .data], laidTests := true, laidLooks := .later }
def ElaborateTreeUptoCardSaid : Prop := Claim7.holds Tryz.pinned (.plain (OpenSpec.upto elaborateTreeSpec)) elaborateTreeUptoCard

/-- THE SECOND FORM's CARD OF 'vinculumlaw51.ElaborateWitnesses'. -/
def elaborateWitnessesUptoCard : Claim7 := { stood := { row := elaborateWitnessesUptoRow, standIns := [], harness := (true, "f881f5d854970f85b1e8adb2263bb95f6afe17840423779969cfcf338e86900a"), looks := true }, kinds := [], alts := [], laidByText := true, laidKinds := [.data, .data, .data], laidTests := true, laidLooks := .later }
def ElaborateWitnessesUptoCardSaid : Prop := Claim7.holds Tryz.pinned (.plain (OpenSpec.upto elaborateWitnessesSpec)) elaborateWitnessesUptoCard

/-- THE SECOND FORM's CARD OF 'vinculumlaw52.RenderTree'. -/
def renderTreeUptoCard : Claim7 := { stood := { row := renderTreeUptoRow, standIns := [], harness := (true, "f881f5d854970f85b1e8adb2263bb95f6afe17840423779969cfcf338e86900a"), looks := true }, kinds := [], alts := [], laidByText := true, laidKinds := [.data, .data, .data, .sentinel, .sentinel], laidTests := true, laidLooks := .later }
def RenderTreeUptoCardSaid : Prop := Claim7.holds Tryz.pinned (.plain (OpenSpec.upto renderTreeSpec)) renderTreeUptoCard

/-- THE SECOND FORM's CARD OF 'vinculumlaw52.RenderInverse'. -/
def renderInverseUptoCard : Claim7 := { stood := { row := renderInverseUptoRow, standIns := [], harness := (true, "f881f5d854970f85b1e8adb2263bb95f6afe17840423779969cfcf338e86900a"), looks := true }, kinds := [], alts := [], laidByText := true, laidKinds := [.data, .data, .data, .sentinel, .sentinel], laidTests := true, laidLooks := .later }
def RenderInverseUptoCardSaid : Prop := Claim7.holds Tryz.pinned (.plain (OpenSpec.upto renderInverseSpec)) renderInverseUptoCard

/-- THE SECOND FORM's CARD OF 'vinculumlaw52.RenderMeans'. -/
def renderMeansUptoCard : Claim7 := { stood := { row := renderMeansUptoRow, standIns := [], harness := (true, "f881f5d854970f85b1e8adb2263bb95f6afe17840423779969cfcf338e86900a"), looks := true }, kinds := [], alts := [], laidByText := true, laidKinds := [.data, .data, .data, .sentinel, .sentinel], laidTests := true, laidLooks := .later }
def RenderMeansUptoCardSaid : Prop := Claim7.holds Tryz.pinned (.plain (OpenSpec.upto renderMeansSpec)) renderMeansUptoCard

/-- THE SECOND FORM's CARD OF 'vinculumlaw52.RenderFirst'. -/
def renderFirstUptoCard : Claim7 := { stood := { row := renderFirstUptoRow, standIns := [], harness := (true, "f881f5d854970f85b1e8adb2263bb95f6afe17840423779969cfcf338e86900a"), looks := true }, kinds := [], alts := [], laidByText := true, laidKinds := [.data, .data, .data, .sentinel, .sentinel], laidTests := true, laidLooks := .later }
def RenderFirstUptoCardSaid : Prop := Claim7.holds Tryz.pinned (.plain (OpenSpec.upto renderFirstSpec)) renderFirstUptoCard

/-- THE SECOND FORM's CARD OF 'vinculumlaw52.RenderBrackets'. -/
def renderBracketsUptoCard : Claim7 := { stood := { row := renderBracketsUptoRow, standIns := [], harness := (true, "f881f5d854970f85b1e8adb2263bb95f6afe17840423779969cfcf338e86900a"), looks := true }, kinds := [], alts := [], laidByText := true, laidKinds := [.data, .data, .data, .sentinel, .sentinel], laidTests := true, laidLooks := .later }
def RenderBracketsUptoCardSaid : Prop := Claim7.holds Tryz.pinned (.plain (OpenSpec.upto renderBracketsSpec)) renderBracketsUptoCard
end Rows
end Go.Proofs.YtadcldfbmkfkaaaGreatDoor
