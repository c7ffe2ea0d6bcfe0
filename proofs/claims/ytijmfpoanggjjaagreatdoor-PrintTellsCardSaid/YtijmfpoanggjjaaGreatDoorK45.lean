/- Lemmas for the claim (texts LPc, what its proof uses of them). -/
import Derived.Test.YtijmfpoanggjjaaGreatDoorK09
import Derived.Test.YtijmfpoanggjjaaGreatDoorK17
set_option linter.unusedSimpArgs false
set_option linter.unusedVariables false
namespace Go.Proofs.YtijmfpoanggjjaaGreatDoor
open Go.RowKit
attribute [go_sem] more_more Array.size_append
theorem qcO (ns : List Nd) (h : ∀ z ∈ ns, In64 z.i) : Sz (fewN ns) := by
 intro z hz
 unfold fewN at hz
 have hz1 := List.mem_of_mem_take hz
 obtain ⟨y, hy, rfl⟩ := List.mem_map.1 hz1
 exact ⟨Nat.le_trans (cut100_le _) zal, Nat.le_trans (cut100_le _) zal, h y hy⟩
end Go.Proofs.YtijmfpoanggjjaaGreatDoor
