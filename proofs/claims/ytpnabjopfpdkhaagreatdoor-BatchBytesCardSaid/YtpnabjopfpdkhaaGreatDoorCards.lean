/-
  DERIVED. GIVEN WITH THE SEED: THE CARDS: each row of YtpnabjopfpdkhaaGreatDoorRows.lean that lists a variable, with what it lists TIED to the program's text (the seventh form; the later family's looks); each row that meets fmt, with fmt's text TOLD by the authors' own Lean function (tested against real Go, not proved from fmt's source: count such statements apart). THE CARD IS WHAT COUNTS. Prove the row's statement (the work); the ties are given (YtpnabjopfpdkhaaGreatDoorTie.lean); close each card by the builder's one call (the guide's Derived/Test/ToyasCard.lean, 'card_holds'). Laid BY PROGRAM, IN A SANDBOX (cutbox-door.mjs). By AI agents, Wed Nov 11 2026. No macro, syntax, notation, axiom, sorry.
-/
import Derived.Test.YtpnabjopfpdkhaaGreatDoorRows
import GoSem.ClaimSeven
namespace Go.Proofs.YtpnabjopfpdkhaaGreatDoor
namespace Rows

/-- THE TIED CARD OF 'plenumlaw27.BatchAdds'. -/
def batchAddsCard : Claim7 := { stood := { row := batchAddsRow, standIns := [], harness := (true, "9ea195976345fe8e04bdeaf9192c5fc76c90bc94d75d5713855674a0a7e0deb1"), looks := true }, kinds := [], alts := [], laidByText := true, laidKinds := [.data], laidTests := true, laidLooks := .later }
def BatchAddsCardSaid : Prop := Claim7.holds Tryz.pinned (.plain (OpenSpec.ofChange batchAddsSpec)) batchAddsCard

/-- THE TIED CARD OF 'plenumlaw27.BatchWaits'. -/
def batchWaitsCard : Claim7 := { stood := { row := batchWaitsRow, standIns := [], harness := (true, "9ea195976345fe8e04bdeaf9192c5fc76c90bc94d75d5713855674a0a7e0deb1"), looks := true }, kinds := [], alts := [], laidByText := true, laidKinds := [.data], laidTests := true, laidLooks := .later }
def BatchWaitsCardSaid : Prop := Claim7.holds Tryz.pinned (.plain (OpenSpec.ofChange batchWaitsSpec)) batchWaitsCard

/-- THE TIED CARD OF 'plenumlaw27.BatchTakes'. -/
def batchTakesCard : Claim7 := { stood := { row := batchTakesRow, standIns := [], harness := (true, "9ea195976345fe8e04bdeaf9192c5fc76c90bc94d75d5713855674a0a7e0deb1"), looks := true }, kinds := [], alts := [], laidByText := true, laidKinds := [.data], laidTests := true, laidLooks := .later }
def BatchTakesCardSaid : Prop := Claim7.holds Tryz.pinned (.plain (OpenSpec.ofChange batchTakesSpec)) batchTakesCard

/-- THE TIED CARD OF 'plenumlaw27.BatchBytes'. -/
def batchBytesCard : Claim7 := { stood := { row := batchBytesRow, standIns := [], harness := (true, "9ea195976345fe8e04bdeaf9192c5fc76c90bc94d75d5713855674a0a7e0deb1"), looks := true }, kinds := [], alts := [], laidByText := true, laidKinds := [.data], laidTests := true, laidLooks := .later }
def BatchBytesCardSaid : Prop := Claim7.holds Tryz.pinned (.plain (OpenSpec.ofChange batchBytesSpec)) batchBytesCard

/-- THE SECOND FORM's CARD OF 'plenumlaw27.BatchAdds'. -/
def batchAddsUptoCard : Claim7 := { stood := { row := batchAddsUptoRow, standIns := [], harness := (true, "9ea195976345fe8e04bdeaf9192c5fc76c90bc94d75d5713855674a0a7e0deb1"), looks := true }, kinds := [], alts := [], laidByText := true, laidKinds := [.data], laidTests := true, laidLooks := .later }
def BatchAddsUptoCardSaid : Prop := Claim7.holds Tryz.pinned (.plain (OpenSpec.upto batchAddsSpec)) batchAddsUptoCard

/-- THE SECOND FORM's CARD OF 'plenumlaw27.BatchWaits'. -/
def batchWaitsUptoCard : Claim7 := { stood := { row := batchWaitsUptoRow, standIns := [], harness := (true, "9ea195976345fe8e04bdeaf9192c5fc76c90bc94d75d5713855674a0a7e0deb1"), looks := true }, kinds := [], alts := [], laidByText := true, laidKinds := [.data], laidTests := true, laidLooks := .later }
def BatchWaitsUptoCardSaid : Prop := Claim7.holds Tryz.pinned (.plain (OpenSpec.upto batchWaitsSpec)) batchWaitsUptoCard

/-- THE SECOND FORM's CARD OF 'plenumlaw27.BatchTakes'. -/
def batchTakesUptoCard : Claim7 := { stood := { row := batchTakesUptoRow, standIns := [], harness := (true, "9ea195976345fe8e04bdeaf9192c5fc76c90bc94d75d5713855674a0a7e0deb1"), looks := true }, kinds := [], alts := [], laidByText := true, laidKinds := [.data], laidTests := true, laidLooks := .later }
def BatchTakesUptoCardSaid : Prop := Claim7.holds Tryz.pinned (.plain (OpenSpec.upto batchTakesSpec)) batchTakesUptoCard

/-- THE SECOND FORM's CARD OF 'plenumlaw27.BatchBytes'. -/
def batchBytesUptoCard : Claim7 := { stood := { row := batchBytesUptoRow, standIns := [], harness := (true, "9ea195976345fe8e04bdeaf9192c5fc76c90bc94d75d5713855674a0a7e0deb1"), looks := true }, kinds := [], alts := [], laidByText := true, laidKinds := [.data], laidTests := true, laidLooks := .later }
def BatchBytesUptoCardSaid : Prop := Claim7.holds Tryz.pinned (.plain (OpenSpec.upto batchBytesSpec)) batchBytesUptoCard
end Rows
end Go.Proofs.YtpnabjopfpdkhaaGreatDoor
