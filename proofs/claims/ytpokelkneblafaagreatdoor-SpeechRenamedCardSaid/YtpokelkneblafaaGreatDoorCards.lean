/-
  DERIVED. GIVEN WITH THE SEED: THE CARDS: each row of YtpokelkneblafaaGreatDoorRows.lean that lists a variable, with what it lists TIED to the program's text (the seventh form; the later family's looks); each row that meets fmt, with fmt's text TOLD by the authors' own Lean function (tested against real Go, not proved from fmt's source: count such statements apart). THE CARD IS WHAT COUNTS. Prove the row's statement (the work); the ties are given (YtpokelkneblafaaGreatDoorTie.lean); close each card by the builder's one call (the guide's Derived/Test/ToyasCard.lean, 'card_holds'). Laid BY PROGRAM, IN A SANDBOX (cutbox-door.mjs). By AI agents, Wed Nov 11 2026. No macro, syntax, notation, axiom, sorry.
-/
import Derived.Test.YtpokelkneblafaaGreatDoorRows
import GoSem.ClaimSeven
namespace Go.Proofs.YtpokelkneblafaaGreatDoor
namespace Rows

/-- THE TIED CARD OF 'vinculumlaw54.SpeechParse'. -/
def speechParseCard : Claim7 := { stood := { row := speechParseRow, standIns := [], harness := (true, "132f1610e38ac727d76a779705e17e649420a567b6a20a56b37d63b53abd406e"), looks := true }, kinds := [], alts := [], laidByText := true, laidKinds := [.data, .data, .data, .data, .sentinel, .sentinel, .pinned, .pinned], laidTests := true, laidLooks := .later }
def SpeechParseCardSaid : Prop := Claim7.holds Tryz.pinned (.plain (OpenSpec.ofChange speechParseSpec)) speechParseCard

/-- THE TIED CARD OF 'vinculumlaw54.SpeechRenamed'. -/
def speechRenamedCard : Claim7 := { stood := { row := speechRenamedRow, standIns := [], harness := (true, "132f1610e38ac727d76a779705e17e649420a567b6a20a56b37d63b53abd406e"), looks := true }, kinds := [], alts := [], laidByText := true, laidKinds := [.data, .data, .data, .data, .sentinel, .sentinel, .pinned, .pinned], laidTests := true, laidLooks := .later }
def SpeechRenamedCardSaid : Prop := Claim7.holds Tryz.pinned (.plain (OpenSpec.ofChange speechRenamedSpec)) speechRenamedCard

/-- THE SECOND FORM's CARD OF 'vinculumlaw54.SpeechParse'. -/
def speechParseUptoCard : Claim7 := { stood := { row := speechParseUptoRow, standIns := [], harness := (true, "132f1610e38ac727d76a779705e17e649420a567b6a20a56b37d63b53abd406e"), looks := true }, kinds := [], alts := [], laidByText := true, laidKinds := [.data, .data, .data, .data, .sentinel, .sentinel, .pinned, .pinned], laidTests := true, laidLooks := .later }
def SpeechParseUptoCardSaid : Prop := Claim7.holds Tryz.pinned (.plain (OpenSpec.upto speechParseSpec)) speechParseUptoCard

/-- THE SECOND FORM's CARD OF 'vinculumlaw54.SpeechRenamed'. -/
def speechRenamedUptoCard : Claim7 := { stood := { row := speechRenamedUptoRow, standIns := [], harness := (true, "132f1610e38ac727d76a779705e17e649420a567b6a20a56b37d63b53abd406e"), looks := true }, kinds := [], alts := [], laidByText := true, laidKinds := [.data, .data, .data, .data, .sentinel, .sentinel, .pinned, .pinned], laidTests := true, laidLooks := .later }
def SpeechRenamedUptoCardSaid : Prop := Claim7.holds Tryz.pinned (.plain (OpenSpec.upto speechRenamedSpec)) speechRenamedUptoCard
end Rows
end Go.Proofs.YtpokelkneblafaaGreatDoor
