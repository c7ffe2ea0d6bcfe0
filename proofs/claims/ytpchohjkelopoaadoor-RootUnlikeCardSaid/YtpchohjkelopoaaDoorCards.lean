/-
  DERIVED. GIVEN WITH THE SEED: THE CARDS: each row of YtpchohjkelopoaaDoorRows.lean that lists a variable, with what it lists TIED to the program's text (the seventh form; the later family's looks); each row that meets fmt, with fmt's text TOLD by the authors' own Lean function (tested against real Go, not proved from fmt's source: count such statements apart). THE CARD IS WHAT COUNTS. Prove the row's statement (the work); the ties are given (YtpchohjkelopoaaDoorTie.lean); close each card by the builder's one call (the guide's Derived/Test/ToyasCard.lean, 'card_holds'). Laid BY PROGRAM, IN A SANDBOX (cutbox-door.mjs). By AI agents, Wed Nov 11 2026. No macro, syntax, notation, axiom, sorry.
-/
import Derived.Test.YtpchohjkelopoaaDoorRows
import GoSem.ClaimSeven
namespace Go.Proofs.YtpchohjkelopoaaDoor
namespace Rows

/-- THE TIED CARD OF 'plenumlaw12.RootUnlike'. -/
def rootUnlikeCard : Claim7 := { stood := { row := rootUnlikeRow, standIns := [], harness := (true, "75af2c67af32b21c8d575230656f727528335537286315e7b30486735682c082"), looks := true }, kinds := [], alts := [], laidByText := true, laidKinds := [.data, .data, .data, .sentinel, .sentinel, .data], laidTests := true, laidLooks := .later }
def RootUnlikeCardSaid : Prop := Claim7.holds Tryd.pinned (.plain (OpenSpec.ofChange rootUnlikeSpec)) rootUnlikeCard

/-- THE SECOND FORM's CARD OF 'plenumlaw12.RootUnlike'. -/
def rootUnlikeUptoCard : Claim7 := { stood := { row := rootUnlikeUptoRow, standIns := [], harness := (true, "75af2c67af32b21c8d575230656f727528335537286315e7b30486735682c082"), looks := true }, kinds := [], alts := [], laidByText := true, laidKinds := [.data, .data, .data, .sentinel, .sentinel, .data], laidTests := true, laidLooks := .later }
def RootUnlikeUptoCardSaid : Prop := Claim7.holds Tryd.pinned (.plain (OpenSpec.upto rootUnlikeSpec)) rootUnlikeUptoCard
end Rows
end Go.Proofs.YtpchohjkelopoaaDoor
