/- Lemmas for the claim (texts PT0, what its proof uses of them). -/
import Derived.Test.YtpchohjkelopoaaGreatDoorK26
set_option linter.unusedSimpArgs false
set_option linter.unusedVariables false
set_option maxRecDepth 20000
namespace Go.Proofs.YtpchohjkelopoaaGreatDoor
open Go.RowKit
attribute [go_sem] more_more Array.size_append
/-- texts that lie apart from a table and from the document's list -/
def RS (bt bm : Nat) (tv lv cv : Value) : Prop := cv.ownBlock ≠ some bt ∧ cv.ownBlock ≠ some bm ∧ (cv.ownBlock = none ∨ cv.ownBlock ≠ tv.ownBlock) ∧ (cv.ownBlock = none ∨ cv.ownBlock ≠ lv.ownBlock)
theorem apart_new {w : World} {base n : Nat} {v tv tv' : Value} {xs : List Value} (h : w.ownsRow base 9 1 v n xs) (h3 : v.ownBlock = none ∨ v.ownBlock ≠ tv.ownBlock) (k3 : tv'.ownBlock = tv.ownBlock ∨ ∃ k, tv'.ownBlock = some k ∧ w.heap.size ≤ k) : v.ownBlock = none ∨ v.ownBlock ≠ tv'.ownBlock := by
  cases hl : v.ownBlock with
  | none => exact Or.inl rfl
  | some g =>
    right
    rcases k3 with k3 | ⟨k, k3, k4⟩
    · rw [k3, ← hl]
      rcases h3 with h3 | h3
      · rw [hl] at h3; cases h3
      · exact h3
    · rw [k3]
      intro e
      have := own_block_lt h hl
      simp at e
      omega
theorem mid_row {B bt bm : Nat} {tv tv' lv cv : Value} {l l' : List ByteArray} {w w' : World} {base n : Nat} {xs : List Value} (h : Both B bt bm tv lv l w) (hR : w.ownsRow base 9 1 cv n xs) (hs : RS bt bm tv lv cv) (ht : TabAt B bt bm tv' l' w') (hst : TabStep bt bm tv w tv' w') :
    Mid B bt bm tv' lv l l' w' ∧ RS bt bm tv' lv cv ∧ w'.ownsRow base 9 1 cv n xs ∧ Below B w w' ∧ Kept w w' := by
  obtain ⟨h0, ho, h1, h2, h3⟩ := h
  obtain ⟨s1, s2, s3, s4⟩ := hs
  exact ⟨⟨ht, own_tabkept ho hst.1 h1 h2 h3, h1, h2, apart_new ho h3 hst.2⟩, ⟨s1, s2, apart_new hR s3 hst.2, s4⟩, own_tabkept (own_mono hR (Nat.zero_le _)) hst.1 s1 s2 s3 |> fun q => own_block hR (fun k hk => by
    obtain ⟨k1, k2, k3, k4, k5⟩ := hst.1
    exact k5 k (own_block_lt hR hk) (fun e => s1 (by rw [hk, e])) (fun e => s2 (by rw [hk, e])) (fun e => by
      rcases s3 with s3 | s3
      · rw [hk] at s3; cases s3
      · exact s3 (by rw [hk, e]))), hst.below h0, Kept.tab h0 hst.1⟩
theorem rs_nil (bt bm : Nat) (tv lv : Value) : RS bt bm tv lv (.slice none 0 0) := ⟨by simp [Value.ownBlock], by simp [Value.ownBlock], Or.inl rfl, Or.inl rfl⟩
theorem mid_le {B bt bm : Nat} {tv lv : Value} {l l' : List ByteArray} {w : World} (h : Mid B bt bm tv lv l l' w) : B ≤ w.heap.size := by
  have h1 := h.1.cells
  obtain ⟨⟨a1, _⟩, _⟩ := h
  omega
end Go.Proofs.YtpchohjkelopoaaGreatDoor
