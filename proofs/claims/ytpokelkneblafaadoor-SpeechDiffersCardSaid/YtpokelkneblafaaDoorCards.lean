/-
  DERIVED. GIVEN WITH THE SEED: THE CARDS: each row of YtpokelkneblafaaDoorRows.lean that lists a variable, with what it lists TIED to the program's text (the seventh form; the later family's looks); each row that meets fmt, with fmt's text TOLD by the authors' own Lean function (tested against real Go, not proved from fmt's source: count such statements apart). THE CARD IS WHAT COUNTS. Prove the row's statement (the work); the ties are given (YtpokelkneblafaaDoorTie.lean); close each card by the builder's one call (the guide's Derived/Test/ToyasCard.lean, 'card_holds'). Laid BY PROGRAM, IN A SANDBOX (cutbox-door.mjs). By AI agents, Wed Nov 11 2026. No macro, syntax, notation, axiom, sorry.
-/
import Derived.Test.YtpokelkneblafaaDoorRows
import GoSem.ClaimSeven
namespace Go.Proofs.YtpokelkneblafaaDoor
namespace Rows

/-- THE TIED CARD OF 'vinculumlaw54.SpeechDiffers'. -/
def speechDiffersCard : Claim7 := { stood := { row := speechDiffersRow, standIns := [], harness := (true, "a19a955543449ae96163e694cf0592f5b381f5a24e3306f12a25ebedf6999121"), looks := false }, kinds := [], alts := [], laidByText := true, laidKinds := [.data, .data, .data, .data, .pinned, .pinned], laidTests := true, laidLooks := .later }
def SpeechDiffersCardSaid : Prop := Claim7.holds Tryd.pinned (.plain (OpenSpec.ofChange speechDiffersSpec)) speechDiffersCard

/-- THE TIED CARD OF 'vinculumlaw54.SpeechName'. -/
def speechNameCard : Claim7 := { stood := { row := speechNameRow, standIns := [], harness := (true, "a19a955543449ae96163e694cf0592f5b381f5a24e3306f12a25ebedf6999121"), looks := false }, kinds := [], alts := [], laidByText := true, laidKinds := [.data, .data, .data, .data, .pinned, .pinned], laidTests := true, laidLooks := .later }
def SpeechNameCardSaid : Prop := Claim7.holds Tryd.pinned (.plain (OpenSpec.ofChange speechNameSpec)) speechNameCard

/-- THE SECOND FORM's CARD OF 'vinculumlaw54.SpeechDiffers'. -/
def speechDiffersUptoCard : Claim7 := { stood := { row := speechDiffersUptoRow, standIns := [], harness := (true, "a19a955543449ae96163e694cf0592f5b381f5a24e3306f12a25ebedf6999121"), looks := false }, kinds := [], alts := [], laidByText := true, laidKinds := [.data, .data, .data, .data, .pinned, .pinned], laidTests := true, laidLooks := .later }
def SpeechDiffersUptoCardSaid : Prop := Claim7.holds Tryd.pinned (.plain (OpenSpec.upto speechDiffersSpec)) speechDiffersUptoCard

/-- THE SECOND FORM's CARD OF 'vinculumlaw54.SpeechName'. -/
def speechNameUptoCard : Claim7 := { stood := { row := speechNameUptoRow, standIns := [], harness := (true, "a19a955543449ae96163e694cf0592f5b381f5a24e3306f12a25ebedf6999121"), looks := false }, kinds := [], alts := [], laidByText := true, laidKinds := [.data, .data, .data, .data, .pinned, .pinned], laidTests := true, laidLooks := .later }
def SpeechNameUptoCardSaid : Prop := Claim7.holds Tryd.pinned (.plain (OpenSpec.upto speechNameSpec)) speechNameUptoCard
end Rows
end Go.Proofs.YtpokelkneblafaaDoor
