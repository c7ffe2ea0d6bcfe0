/- A source's tokens, in plain words. -/
import Derived.Test.YtoaaklcbcbjaiaaLex8
set_option linter.unusedSimpArgs false
set_option linter.unusedVariables false
namespace Go.Proofs.Ytoaaklcbcbjaiaa
open Go.RowKit

/-- the tokens from place k on, behind those that there are: them, or the error and its place -/
def lexG (s : List UInt8) : Nat → Nat → List (Tok × Nat) → List (Tok × Nat) × Int × Nat
  | 0, _, _ => ([], 0, 0)
  | g + 1, k, acc =>
    if s.length ≤ k + skipL false (s.drop k) then (acc ++ [(tok0, s.length)], 0, 0)
    else if (oneF (s.drop (k + skipL false (s.drop k)))).2.2 ≠ 0 then ([], (oneF (s.drop (k + skipL false (s.drop k)))).2.2, k + skipL false (s.drop k))
    else if acc.length = 1024 then ([], 5, k + skipL false (s.drop k))
    else lexG s g (k + skipL false (s.drop k) + (oneF (s.drop (k + skipL false (s.drop k)))).2.1) (acc ++ [((oneF (s.drop (k + skipL false (s.drop k)))).1, k + skipL false (s.drop k))])
/-- a source's tokens -/
def lexF (s : List UInt8) : List (Tok × Nat) × Int × Nat := if 4096 < s.length then ([], 5, 4096) else lexG s (s.length + 1) 0 []

/-- a token's cells -/
def tokCells (l : List (Tok × Nat)) : List Value := l.flatMap fun t => [.int .i64 t.1.k, .int .i64 (t.2 : Int), .string t.1.s, .int .i64 t.1.i]
theorem tokCells_length : ∀ l, (tokCells l).length = l.length * 4
  | [] => rfl
  | t :: l => by
    have := tokCells_length l
    simp only [tokCells, List.flatMap_cons, List.length_append, List.length_cons, List.length_nil] at *
    omega
theorem tokCells_append (l m : List (Tok × Nat)) : tokCells (l ++ m) = tokCells l ++ tokCells m := by simp [tokCells]
theorem tokCells_one (l : List (Tok × Nat)) : ∀ u ∈ tokCells l, u.oneCell' = true := by
  intro u hu
  simp only [tokCells, List.mem_flatMap] at hu
  obtain ⟨t, _, h⟩ := hu
  simp at h
  rcases h with rfl | rfl | rfl | rfl <;> rfl

theorem textG_bd (l acc : List UInt8) : (textG l acc).2.2 = 0 → 1 ≤ (textG l acc).2.1 ∧ (textG l acc).2.1 ≤ l.length := by
  fun_induction textG l acc
  all_goals intro h
  all_goals first
    | (exfalso; exact absurd h (by decide))
    | (refine ⟨?_, ?_⟩ <;> simp only [List.length_cons] <;> omega)
    | (rename_i ih; have h2 := ih h; exact ⟨Nat.succ_le_succ (Nat.zero_le _), Nat.succ_le_succ h2.2⟩)
    | (rename_i ih; have h2 := ih h; exact ⟨Nat.succ_le_succ (Nat.zero_le _), Nat.succ_le_succ (Nat.succ_le_succ h2.2)⟩)

theorem signF_bd (l : List UInt8) (r : Tok) (n : Nat) (h : signF l = (r, n, 0)) : 1 ≤ n ∧ n ≤ l.length := by
  unfold signF at h
  cases hf : twoL.find? (fun p => Lib.hasPrefix l p.data.toList) with
  | some p =>
    rw [hf] at h
    simp only [Prod.mk.injEq] at h
    obtain ⟨_, rfl, _⟩ := h
    have h1 := List.find?_some hf
    have h2 := List.mem_of_find?_eq_some hf
    have h3 : p.data.toList.length = 2 := by
      simp only [twoL, List.mem_cons, List.not_mem_nil, or_false] at h2
      rcases h2 with rfl | rfl | rfl | rfl | rfl <;> rfl
    have h4 := (List.isPrefixOf_iff_prefix.1 h1).length_le
    omega
  | none =>
    rw [hf] at h
    cases l with
    | nil => simp at h
    | cons c l =>
      dsimp only at h
      split at h
      · simp only [Prod.mk.injEq] at h
        obtain ⟨_, rfl, _⟩ := h
        simp
      · simp at h

/-- a token has a byte at least, and no more than there are -/
theorem oneF_bd (l : List UInt8) (r : Tok) (n : Nat) (hl : 0 < l.length) (h : oneF l = (r, n, 0)) : 1 ≤ n ∧ n ≤ l.length := by
  cases l with
  | nil => simp at hl
  | cons c l =>
    unfold oneF at h
    dsimp only at h
    by_cases c1 : letterB (c.toNat : Int) = true
    · rw [if_pos c1] at h
      simp only [Prod.mk.injEq] at h
      obtain ⟨_, rfl, _⟩ := h
      have hb : nameB (c.toNat : Int) = true := by simp [nameB, c1]
      refine ⟨?_, spanN_le _ _⟩
      rw [spanN, if_pos hb]; omega
    rw [if_neg c1] at h
    by_cases c2 : digitB (c.toNat : Int) = true
    · rw [if_pos c2] at h
      have key : n = spanN digitB (c :: l) := by
        split at h <;> simp only [Prod.mk.injEq] at h <;> exact h.2.1.symm
      rw [key]
      refine ⟨?_, spanN_le _ _⟩
      rw [spanN, if_pos c2]; omega
    rw [if_neg c2] at h
    by_cases c3 : c.toNat = 34
    · rw [if_pos c3] at h
      simp only [Prod.mk.injEq] at h
      obtain ⟨_, rfl, h3⟩ := h
      have := textG_bd l [] h3
      simp only [List.length_cons]
      omega
    · rw [if_neg c3] at h
      exact signF_bd _ r n h
end Go.Proofs.Ytoaaklcbcbjaiaa
