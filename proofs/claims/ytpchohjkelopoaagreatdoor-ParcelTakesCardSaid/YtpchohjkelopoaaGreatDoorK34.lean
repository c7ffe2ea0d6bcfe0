/- Lemmas for the claim (texts RmP, what its proof uses of them). -/
import Derived.Test.YtpchohjkelopoaaGreatDoorK15
import Derived.Test.YtpchohjkelopoaaGreatDoorK26
import Derived.Test.YtpchohjkelopoaaGreatDoorRows
set_option linter.unusedSimpArgs false
set_option linter.unusedVariables false
set_option maxRecDepth 20000
namespace Go.Proofs.YtpchohjkelopoaaGreatDoor
open Go.RowKit
open Go.ChangeShapes Go.WideShapes Go.ChangeAt Go.Joins
theorem env15_of_laid {W : World} (h : laidMetH Tryz.prog Rows.parcelTellsRow.laid W) : Env15 W.heap.size W := by
  rw [MakeChecks.laidMetH_plain _ _ _ (by kernel_rfl)] at h
  have h3 := laidMet.tail (laidMet.tail h)
  have h4 := laidMet.tail h3
  exact ⟨Nat.le_refl _, signs_of h4, pow_of h3⟩
theorem door15_met (os : Os) (args : Array Value) : laidMetH Tryz.prog Rows.parcelTellsRow.laid ((World.doorLaid Tryz.prog 67 os).forCall (fun _ _ => 0) ⟨#[], args, []⟩).memory :=
  laidMetH_of_parts3 (fuel := 8) (laidMet_of_run' 8 (by kernel_rfl) (by kernel_rfl)) (by kernel_rfl) (by kernel_rfl)
end Go.Proofs.YtpchohjkelopoaaGreatDoor
