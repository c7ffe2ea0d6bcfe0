/- What the condition of ValueTexts' tied row gives, and a world that meets it. -/
import Derived.Test.YtoaaklcbcbjaiaaDoorTxt1
import Derived.Test.YtoaaklcbcbjaiaaDoorRow
import Derived.Test.YtoaaklcbcbjaiaaDoorRows
import Derived.Lib.LaidTab
import Derived.Stop.LaidErr
import Derived.Stop.Joined
import Derived.LaidMore
import Derived.LaidLaws
import Derived.ChangeSame
import Derived.ChangeVars
import Derived.JoinedOf
import Derived.RowKitTokens
import Derived.OpenShut
set_option linter.unusedSimpArgs false
set_option linter.unusedVariables false
namespace Go.Proofs.YtoaaklcbcbjaiaaDoor
open Go.RowKit
open Go.ChangeShapes Go.WideShapes Go.ChangeAt Go.Joins

/-- what the condition gives -/
theorem of_laid {W : World} (h : laidMetH Tryd.prog Rows.valueTextsRow.laid W) : Pow10 W.heap.size W := by
  rw [MakeChecks.laidMetH_plain _ _ _ (by kernel_rfl)] at h
  have h3 := laidMet.tail (laidMet.tail h)
  have hg : Tryd.prog.globalNamed "internal/strconv.uint64pow10" = some 0 := by kernel_rfl
  have hgt : (Tryd.prog.globals[0]?).map (·.type) = some 64 := by kernel_rfl
  have t := Lib.tabIs_of_head (k := .u64) (zs := Lib.pow10Tab) hg hgt Tryd.underlying64 Tryd.underlying51 (by kernel_rfl) (by kernel_rfl) h3
  refine ⟨⟨0, hg, ?_⟩, t⟩
  unfold Lib.TabIs World.var? at t
  rw [hg] at t
  simp only [Option.bind_some] at t
  rcases Nat.lt_or_ge 0 W.heap.size with h | h
  · exact h
  · rw [Array.getElem?_eq_none h] at t; cases t
theorem door_met (os : Os) (args : Array Value) : laidMetH Tryd.prog Rows.valueTextsRow.laid ((World.doorLaid Tryd.prog 24 os).forCall (fun _ _ => 0) ⟨#[], args, []⟩).memory :=
  laidMetH_of_parts3 (fuel := 8) (laidMet_of_run' 8 (by kernel_rfl) (by kernel_rfl)) (by kernel_rfl) (by kernel_rfl)
end Go.Proofs.YtoaaklcbcbjaiaaDoor
