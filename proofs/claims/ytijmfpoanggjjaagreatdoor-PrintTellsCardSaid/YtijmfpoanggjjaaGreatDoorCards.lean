/-
  DERIVED. GIVEN WITH THE SEED: THE CARDS: each row of YtijmfpoanggjjaaGreatDoorRows.lean that lists a variable, with what it lists TIED to the program's text (the seventh form; the later family's looks); each row that meets fmt, with fmt's text TOLD by the authors' own Lean function (tested against real Go, not proved from fmt's source: count such statements apart). THE CARD IS WHAT COUNTS. Prove the row's statement (the work); the ties are given (YtijmfpoanggjjaaGreatDoorTie.lean); close each card by the builder's one call (the guide's Derived/Test/ToyasCard.lean, 'card_holds'). Laid BY PROGRAM, IN A SANDBOX (cutbox-door.mjs). By AI agents, Wed Nov 11 2026. No macro, syntax, notation, axiom, sorry.
-/
import Derived.Test.YtijmfpoanggjjaaGreatDoorRows
import GoSem.ClaimSeven
namespace Go.Proofs.YtijmfpoanggjjaaGreatDoor
namespace Rows

/-- THE TIED CARD OF 'plenumlaw18.PrintTells'. -/
def printTellsCard : Claim7 := { stood := { row := printTellsRow, standIns := [], harness := (true, "62339fdcc2ba590a272806ecf5b7522ccca5aaf3faa1ac0bf764909bf37360f6"), looks := true }, kinds := [], alts := [], laidByText := true, laidKinds := [.data, .data, .data], laidTests := true, laidLooks := .later }
def PrintTellsCardSaid : Prop := Claim7.holds Tryz.pinned (.plain (OpenSpec.ofChange printTellsSpec)) printTellsCard

/-- THE TIED CARD OF 'plenumlaw18.PrintMays'. -/
def printMaysCard : Claim7 := { stood := { row := printMaysRow, standIns := [], harness := (true, "62339fdcc2ba590a272806ecf5b7522ccca5aaf3faa1ac0bf764909bf37360f6"), looks := true }, kinds := [], alts := [], laidByText := true, laidKinds := [.data, .data, .data], laidTests := true, laidLooks := .later }
def PrintMaysCardSaid : Prop := Claim7.holds Tryz.pinned (.plain (OpenSpec.ofChange printMaysSpec)) printMaysCard

/-- THE TIED CARD OF 'plenumlaw18.PrintBack'. -/
def printBackCard : Claim7 := { stood := { row := printBackRow, standIns := [], harness := (true, "62339fdcc2ba590a272806ecf5b7522ccca5aaf3faa1ac0bf764909bf37360f6"), looks := true }, kinds := [], alts := [], laidByText := true, laidKinds := [.data, .data, .data], laidTests := true, laidLooks := .later }
def PrintBackCardSaid : Prop := Claim7.holds Tryz.pinned (.plain (OpenSpec.ofChange printBackSpec)) printBackCard

/-- THE SECOND FORM's CARD OF 'plenumlaw18.PrintTells'. -/
def printTellsUptoCard : Claim7 := { stood := { row := printTellsUptoRow, standIns := [], harness := (true, "62339fdcc2ba590a272806ecf5b7522ccca5aaf3faa1ac0bf764909bf37360f6"), looks := true }, kinds := [], alts := [], laidByText := true, laidKinds := [.data, .data, .data], laidTests := true, laidLooks := .later }
def PrintTellsUptoCardSaid : Prop := Claim7.holds Tryz.pinned (.plain (OpenSpec.upto printTellsSpec)) printTellsUptoCard

/-- THE SECOND FORM's CARD OF 'plenumlaw18.PrintMays'. -/
def printMaysUptoCard : Claim7 := { stood := { row := printMaysUptoRow, standIns := [], harness := (true, "62339fdcc2ba590a272806ecf5b7522ccca5aaf3faa1ac0bf764909bf37360f6"), looks := true }, kinds := [], alts := [], laidByText := true, laidKinds := [.data, .data, .data], laidTests := true, laidLooks := .later }
def PrintMaysUptoCardSaid : Prop := Claim7.holds Tryz.pinned (.plain (OpenSpec.upto printMaysSpec)) printMaysUptoCard

/-- THE SECOND FORM's CARD OF 'plenumlaw18.PrintBack'. -/
def printBackUptoCard : Claim7 := { stood := { row := printBackUptoRow, standIns := [], harness := (true, "62339fdcc2ba590a272806ecf5b7522ccca5aaf3faa1ac0bf764909bf37360f6"), looks := true }, kinds := [], alts := [], laidByText := true, laidKinds := [.data, .data, .data], laidTests := true, laidLooks := .later }
def PrintBackUptoCardSaid : Prop := Claim7.holds Tryz.pinned (.plain (OpenSpec.upto printBackSpec)) printBackUptoCard
end Rows
end Go.Proofs.YtijmfpoanggjjaaGreatDoor
