/- The plain law of the two orders of values. -/
import Derived.Test.YthekfgbiplmikaaVal3
set_option linter.unusedSimpArgs false
set_option linter.unusedVariables false
namespace Go.Proofs.Ythekfgbiplmikaa
open Go.RowKit

/-! ### the two orders agree -/
theorem bytesLess_iff : ∀ a b : List UInt8, (Lib.compareBytes a b < 0 ↔ Op.bytesLess a b = true) ∧ (Lib.compareBytes a b = 0 ↔ a = b)
  | [], [] => by simp [Lib.compareBytes, Op.bytesLess]
  | [], _ :: _ => by simp [Lib.compareBytes, Op.bytesLess]
  | _ :: _, [] => by simp [Lib.compareBytes, Op.bytesLess]
  | a :: x, b :: y => by
    have ih := bytesLess_iff x y
    unfold Lib.compareBytes Op.bytesLess
    by_cases h1 : a < b
    · have hne : a ≠ b := fun e => by subst e; exact absurd h1 (UInt8.lt_irrefl _)
      simp [h1, hne]
    · by_cases h2 : b < a
      · have hne : a ≠ b := fun e => by subst e; exact absurd h2 (UInt8.lt_irrefl _)
        simp [h1, h2, hne]
      · have he : a = b := UInt8.le_antisymm (UInt8.not_lt.1 h2) (UInt8.not_lt.1 h1)
        subst he
        simp [h1, ih.1, ih.2]

/-- of values that may be the two orders have one sign -/
theorem order_sign {k i : Int} {s : ByteArray} {k' i' : Int} {s' : ByteArray} (h : mayB k i s = true) (h' : mayB k' i' s' = true) :
    (orderZ k i s k' i' s' < 0 ↔ rorderZ k i s k' i' s' = -1) ∧ (orderZ k i s k' i' s' = 0 ↔ rorderZ k i s k' i' s' = 0) := by
  have hk : 0 ≤ k ∧ k ≤ 3 := by rcases may_cases h with h | h | h | h <;> omega
  have hk' : 0 ≤ k' ∧ k' ≤ 3 := by rcases may_cases h' with h | h | h | h <;> omega
  have hb := bytesLess_iff s.data.toList s'.data.toList
  unfold orderZ rorderZ
  simp only [Lib.toList_data]
  by_cases c1 : k = k'
  · subst c1
    by_cases c2 : i = i'
    · subst c2
      by_cases c3 : s.data.toList = s'.data.toList
      · simp only [ne_eq, not_true_eq_false, if_false, Int.lt_irrefl, true_and, c3, if_true]
        have := (bytesLess_iff s'.data.toList s'.data.toList).2.2 rfl
        rw [this]; simp
      · have e0 : ¬ Lib.compareBytes s.data.toList s'.data.toList = 0 := fun e => c3 (hb.2.1 e)
        simp only [ne_eq, not_true_eq_false, if_false, Int.lt_irrefl, true_and, c3, false_or]
        by_cases c4 : Op.bytesLess s.data.toList s'.data.toList = true
        · have := hb.1.2 c4
          simp [c4, this]; omega
        · have : ¬ Lib.compareBytes s.data.toList s'.data.toList < 0 := fun e => c4 (hb.1.1 e)
          simp [c4, this, e0]
    · rcases Int.lt_or_gt_of_ne c2 with c3 | c3
      · simp [c2, c3]
      · have : ¬ i < i' := by omega
        simp [c2, c3, this]
  · have hw : wrap64 (k - k') = k - k' := by unfold wrap64; omega
    have cn : ¬ (k = k' ∧ i = i' ∧ s.data.toList = s'.data.toList) := fun e => c1 e.1
    rw [if_pos c1, if_neg cn, hw]
    rcases Int.lt_or_gt_of_ne c1 with c3 | c3
    · rw [if_pos (Or.inl c3)]; omega
    · rw [if_neg (by rintro (h | ⟨h, _⟩) <;> omega)]; omega

theorem rorder_range (k i : Int) (s : ByteArray) (k' i' : Int) (s' : ByteArray) : rorderZ k i s k' i' s' = -1 ∨ rorderZ k i s k' i' s' = 0 ∨ rorderZ k i s k' i' s' = 1 := by
  unfold rorderZ; split
  · simp
  · split <;> simp


theorem less_order (k i : Int) (s : ByteArray) (k' i' : Int) (s' : ByteArray) : lessB k i s k' i' s' = (mayB k i s && (mayB k' i' s' && decide (rorderZ k i s k' i' s' < 0))) := by
  unfold lessB
  cases h : mayB k i s
  · simp
  · cases h' : mayB k' i' s'
    · simp
    · obtain ⟨h1, _⟩ := order_sign h h'
      have h3 := rorder_range k i s k' i' s'
      simp only [Bool.true_and]
      rw [Bool.eq_iff_iff]
      simp only [decide_eq_true_eq]
      omega
end Go.Proofs.Ythekfgbiplmikaa
