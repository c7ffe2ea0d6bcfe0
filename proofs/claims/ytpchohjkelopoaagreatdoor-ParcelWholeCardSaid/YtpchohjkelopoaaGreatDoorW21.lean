/- Lemmas for the claim (texts PaN, what its proof uses of them). -/
import Derived.Test.YtpchohjkelopoaaGreatDoorW19
set_option linter.unusedSimpArgs false
set_option linter.unusedVariables false
set_option maxRecDepth 20000
namespace Go.Proofs.YtpchohjkelopoaaGreatDoor
open Go.RowKit
attribute [go_sem] more_more Array.size_append
theorem leavesT_len (T : Nat → List It) (V : Nat → Int) : ∀ (bs : List Nat) (l : List ByteArray), (leavesT T V bs l).2.2 = 0 → (leavesT T V bs l).2.1.length = bs.length
  | [], _, _ => rfl
  | b :: bs, l, h => by
    unfold leavesT at h ⊢
    split
    · next h1 => rw [if_pos h1] at h; exact absurd h h1
    · next h1 =>
      rw [if_neg h1] at h
      split
      · next h2 => rw [if_pos h2] at h; exact absurd h h2
      · next h2 => simp [leavesT_len T V bs _ (by simpa using h2)]
end Go.Proofs.YtpchohjkelopoaaGreatDoor
