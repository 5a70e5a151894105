/-
  DERIVED. GIVEN WITH THE SEED: THE CARDS: each row of YthpioplpfmlgcaaGreatDoorRows.lean that lists a variable, with what it lists TIED to the program's text (the seventh form; the later family's looks); each row that meets fmt, with fmt's text TOLD by the authors' own Lean function (tested against real Go, not proved from fmt's source: count such statements apart). THE CARD IS WHAT COUNTS. Prove the row's statement (the work); the ties are given (YthpioplpfmlgcaaGreatDoorTie.lean); close each card by the builder's one call (the guide's Derived/Test/ToyasCard.lean, 'card_holds'). Laid BY PROGRAM, IN A SANDBOX (cutbox-door.mjs). By AI agents, Wed Nov 11 2026. No macro, syntax, notation, axiom, sorry.
-/
import Derived.Test.YthpioplpfmlgcaaGreatDoorRows
import GoSem.ClaimSeven
namespace Go.Proofs.YthpioplpfmlgcaaGreatDoor
namespace Rows

/-- THE TIED CARD OF 'vinculumlaw51.ElaborateTree'. -/
def elaborateTreeCard : Claim7 := { stood := { row := elaborateTreeRow, standIns := [], harness := (true, "db88f3536f67e7f95edd1372097ab306547b392cd6b76aec171ba1d7ccb5b76f"), looks := false }, kinds := [], alts := [], laidByText := true, laidKinds := [.data, .data, .data], laidTests := true, laidLooks := .later }
def ElaborateTreeCardSaid : Prop := Claim7.holds Tryz.pinned (.plain (OpenSpec.ofChange elaborateTreeSpec)) elaborateTreeCard

/-- THE TIED CARD OF 'vinculumlaw51.ElaborateValid'. -/
def elaborateValidCard : Claim7 := { stood := { row := elaborateValidRow, standIns := [], harness := (true, "db88f3536f67e7f95edd1372097ab306547b392cd6b76aec171ba1d7ccb5b76f"), looks := false }, kinds := [], alts := [], laidByText := true, laidKinds := [.data, .data, .data], laidTests := true, laidLooks := .later }
def ElaborateValidCardSaid : Prop := Claim7.holds Tryz.pinned (.plain (OpenSpec.ofChange elaborateValidSpec)) elaborateValidCard

/-- THE TIED CARD OF 'vinculumlaw51.ElaborateParts'. -/
def elaboratePartsCard : Claim7 := { stood := { row := elaboratePartsRow, standIns := [], harness := (true, "db88f3536f67e7f95edd1372097ab306547b392cd6b76aec171ba1d7ccb5b76f"), looks := false }, kinds := [], alts := [], laidByText := true, laidKinds := [.data, .data, .data], laidTests := true, laidLooks := .later }
def ElaboratePartsCardSaid : Prop := Claim7.holds Tryz.pinned (.plain (OpenSpec.ofChange elaboratePartsSpec)) elaboratePartsCard

/-- THE TIED CARD OF 'vinculumlaw51.ElaborateBrackets'. -/
def elaborateBracketsCard : Claim7 := { stood := { row := elaborateBracketsRow, standIns := [], harness := (true, "db88f3536f67e7f95edd1372097ab306547b392cd6b76aec171ba1d7ccb5b76f"), looks := false }, kinds := [], alts := [], laidByText := true, laidKinds := [.data, .data, .data], laidTests := true, laidLooks := .later }
def ElaborateBracketsCardSaid : Prop := Claim7.holds Tryz.pinned (.plain (OpenSpec.ofChange elaborateBracketsSpec)) elaborateBracketsCard

/-- THE TIED CARD OF 'vinculumlaw51.ElaborateExtends'. -/
def elaborateExtendsCard : Claim7 := { stood := { row := elaborateExtendsRow, standIns := [], harness := (true, "db88f3536f67e7f95edd1372097ab306547b392cd6b76aec171ba1d7ccb5b76f"), looks := false }, kinds := [], alts := [], laidByText := true, laidKinds := [.data, .data, .data], laidTests := true, laidLooks := .later }
def ElaborateExtendsCardSaid : Prop := Claim7.holds Tryz.pinned (.plain (OpenSpec.ofChange elaborateExtendsSpec)) elaborateExtendsCard

/-- THE TIED CARD OF 'vinculumlaw51.ElaborateTokens'. -/
def elaborateTokensCard : Claim7 := { stood := { row := elaborateTokensRow, standIns := [], harness := (true, "db88f3536f67e7f95edd1372097ab306547b392cd6b76aec171ba1d7ccb5b76f"), looks := false }, kinds := [], alts := [], laidByText := true, laidKinds := [.data, .data, .data], laidTests := true, laidLooks := .later }
def ElaborateTokensCardSaid : Prop := Claim7.holds Tryz.pinned (.plain (OpenSpec.ofChange elaborateTokensSpec)) elaborateTokensCard

/-- THE TIED CARD OF 'vinculumlaw51.ElaborateWitnesses'. -/
def elaborateWitnessesCard : Claim7 := { stood := { row := elaborateWitnessesRow, standIns := [], harness := (true, "db88f3536f67e7f95edd1372097ab306547b392cd6b76aec171ba1d7ccb5b76f"), looks := false }, kinds := [], alts := [], laidByText := true, laidKinds := [.data, .data, .data], laidTests := true, laidLooks := .later }
def ElaborateWitnessesCardSaid : Prop := Claim7.holds Tryz.pinned (.plain (OpenSpec.ofChange elaborateWitnessesSpec)) elaborateWitnessesCard

/-- THE SECOND FORM's CARD OF 'vinculumlaw51.ElaborateTree'. -/
def elaborateTreeUptoCard : Claim7 := { stood := { row := elaborateTreeUptoRow, standIns := [], harness := (true, "db88f3536f67e7f95edd1372097ab306547b392cd6b76aec171ba1d7ccb5b76f"), looks := false }, kinds := [], alts := [], laidByText := true, laidKinds := [.data, .data, .data], laidTests := true, laidLooks := .later }
def ElaborateTreeUptoCardSaid : Prop := Claim7.holds Tryz.pinned (.plain (OpenSpec.upto elaborateTreeSpec)) elaborateTreeUptoCard

/-- THE SECOND FORM's CARD OF 'vinculumlaw51.ElaborateValid'. -/
def elaborateValidUptoCard : Claim7 := { stood := { row := elaborateValidUptoRow, standIns := [], harness := (true, "db88f3536f67e7f95edd1372097ab306547b392cd6b76aec171ba1d7ccb5b76f"), looks := false }, kinds := [], alts := [], laidByText := true, laidKinds := [.data, .data, .data], laidTests := true, laidLooks := .later }
def ElaborateValidUptoCardSaid : Prop := Claim7.holds Tryz.pinned (.plain (OpenSpec.upto elaborateValidSpec)) elaborateValidUptoCard

/-- THE SECOND FORM's CARD OF 'vinculumlaw51.ElaborateParts'. -/
def elaboratePartsUptoCard : Claim7 := { stood := { row := elaboratePartsUptoRow, standIns := [], harness := (true, "db88f3536f67e7f95edd1372097ab306547b392cd6b76aec171ba1d7ccb5b76f"), looks := false }, kinds := [], alts := [], laidByText := true, laidKinds := [.data, .data, .data], laidTests := true, laidLooks := .later }
def ElaboratePartsUptoCardSaid : Prop := Claim7.holds Tryz.pinned (.plain (OpenSpec.upto elaboratePartsSpec)) elaboratePartsUptoCard

/-- THE SECOND FORM's CARD OF 'vinculumlaw51.ElaborateBrackets'. -/
def elaborateBracketsUptoCard : Claim7 := { stood := { row := elaborateBracketsUptoRow, standIns := [], harness := (true, "db88f3536f67e7f95edd1372097ab306547b392cd6b76aec171ba1d7ccb5b76f"), looks := false }, kinds := [], alts := [], laidByText := true, laidKinds := [.data, .data, .data], laidTests := true, laidLooks := .later }
def ElaborateBracketsUptoCardSaid : Prop := Claim7.holds Tryz.pinned (.plain (OpenSpec.upto elaborateBracketsSpec)) elaborateBracketsUptoCard

/-- THE SECOND FORM's CARD OF 'vinculumlaw51.ElaborateExtends'. -/
def elaborateExtendsUptoCard : Claim7 := { stood := { row := elaborateExtendsUptoRow, standIns := [], harness := (true, "db88f3536f67e7f95edd1372097ab306547b392cd6b76aec171ba1d7ccb5b76f"), looks := false }, kinds := [], alts := [], laidByText := true, laidKinds := [.data, .data, .data], laidTests := true, laidLooks := .later }
def ElaborateExtendsUptoCardSaid : Prop := Claim7.holds Tryz.pinned (.plain (OpenSpec.upto elaborateExtendsSpec)) elaborateExtendsUptoCard

/-- THE SECOND FORM's CARD OF 'vinculumlaw51.ElaborateTokens'. -/
def elaborateTokensUptoCard : Claim7 := { stood := { row := elaborateTokensUptoRow, standIns := [], harness := (true, "db88f3536f67e7f95edd1372097ab306547b392cd6b76aec171ba1d7ccb5b76f"), looks := false }, kinds := [], alts := [], laidByText := true, laidKinds := [.data, .data, .data], laidTests := true, laidLooks := .later }
def ElaborateTokensUptoCardSaid : Prop := Claim7.holds Tryz.pinned (.plain (OpenSpec.upto elaborateTokensSpec)) elaborateTokensUptoCard

/-- THE SECOND FORM's CARD OF 'vinculumlaw51.ElaborateWitnesses'. -/
def elaborateWitnessesUptoCard : Claim7 := { stood := { row := elaborateWitnessesUptoRow, standIns := [], harness := (true, "db88f3536f67e7f95edd1372097ab306547b392cd6b76aec171ba1d7ccb5b76f"), looks := false }, kinds := [], alts := [], laidByText := true, laidKinds := [.data, .data, .data], laidTests := true, laidLooks := .later }
def ElaborateWitnessesUptoCardSaid : Prop := Claim7.holds Tryz.pinned (.plain (OpenSpec.upto elaborateWitnessesSpec)) elaborateWitnessesUptoCard
end Rows
end Go.Proofs.YthpioplpfmlgcaaGreatDoor
