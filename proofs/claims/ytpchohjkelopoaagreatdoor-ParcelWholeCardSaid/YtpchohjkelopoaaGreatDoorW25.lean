/- Lemmas for the claim (texts PT0, what its proof uses of them). -/
import Derived.Test.YtpchohjkelopoaaGreatDoorW24
set_option linter.unusedSimpArgs false
set_option linter.unusedVariables false
set_option maxRecDepth 20000
namespace Go.Proofs.YtpchohjkelopoaaGreatDoor
open Go.RowKit
attribute [go_sem] more_more Array.size_append
theorem store_trunk {T : Nat → List It} {V : Nat → Int} {a b c : Int} (h : storeB T V a b c = true) : trunkB T V = true := by
  rw [storeB_eq] at h
  simp only [Bool.and_eq_true] at h
  exact h.1.1.1.1.1.1
end Go.Proofs.YtpchohjkelopoaaGreatDoor
