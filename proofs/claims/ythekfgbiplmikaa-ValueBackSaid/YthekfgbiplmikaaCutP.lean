/- varint's and the reference's cutting of a number, in plain words: what each comes to is one function, cutG. -/
import Derived.Test.YthekfgbiplmikaaEnc1
set_option linter.unusedSimpArgs false
set_option linter.unusedVariables false
namespace Go.Proofs.Ythekfgbiplmikaa

/-- the number with which bytes begin: k bytes are read, v is what they say -/
def cutG : Nat → Nat → List UInt8 → Nat × Nat × Int
  | _, _, [] => (0, 0, 2)
  | k, v, c :: l => if k = 9 ∧ 1 < c.toNat then (0, 0, 8) else if 128 ≤ c.toNat then cutG (k + 1) (v + c.toNat % 128 * 128 ^ k) l else if c.toNat = 0 ∧ 0 < k then (0, 0, 3) else (v + c.toNat * 128 ^ k, k + 1, 0)

theorem cutG_put : ∀ (m x k v : Nat) (tl : List UInt8), x ≤ m → x * 128 ^ k < 18446744073709551616 → (0 < k → 0 < x) → k ≤ 9 → cutG k v (putB x ++ tl) = (v + x * 128 ^ k, k + (putB x).length, 0) := by
  intro m
  induction m with
  | zero =>
    intro x k v tl hx hb hk h9
    have h0 : k = 0 := by omega
    have hx0 : x = 0 := by omega
    subst h0 hx0
    rw [putB, if_pos (by omega)]
    simp [cutG]
  | succ m ih =>
    intro x k v tl hx hb hk h9
    rw [putB]
    by_cases h : x < 128
    · rw [if_pos h]
      have e : (UInt8.ofNat x).toNat = x := by simp; omega
      simp only [List.cons_append, List.nil_append, cutG, e]
      have c1 : ¬ (k = 9 ∧ 1 < x) := by
        rintro ⟨rfl, h1⟩
        omega
      rw [if_neg c1, if_neg (by omega), if_neg (by omega)]
      simp
    · rw [if_neg h]
      have e : (UInt8.ofNat (x % 128 + 128)).toNat = x % 128 + 128 := by simp; omega
      have h9' : k < 9 := by
        rcases Nat.lt_or_ge k 9 with h' | h'
        · exact h'
        · have : k = 9 := by omega
          subst this
          omega
      have hp : x / 128 * 128 ^ (k + 1) ≤ x * 128 ^ k := by
        rw [Nat.pow_succ, Nat.mul_comm (128 ^ k), ← Nat.mul_assoc]
        exact Nat.mul_le_mul_right _ (Nat.div_mul_le_self _ _)
      simp only [List.cons_append, cutG, e]
      rw [if_neg (by omega), if_pos (by omega), ih (x / 128) (k + 1) _ tl (by omega) (by omega) (by omega) (by omega)]
      have e1 : (x % 128 + 128) % 128 = x % 128 := by omega
      have e2 : v + x % 128 * 128 ^ k + x / 128 * 128 ^ (k + 1) = v + x * 128 ^ k := by
        have : x = x % 128 + x / 128 * 128 := by omega
        generalize x / 128 = q at *
        generalize x % 128 = r at *
        subst this
        rw [Nat.pow_succ, Nat.add_mul, Nat.mul_comm (128 ^ k) 128, ← Nat.mul_assoc]
        omega
      rw [e1, e2]
      simp; omega

theorem pow_split : ∀ k, k ≤ 8 → ∃ M, 128 ^ (k + 1) * M = 18446744073709551616 := by
  intro k hk
  refine ⟨2 ^ (57 - 7 * k), ?_⟩
  have : (128 : Nat) = 2 ^ 7 := rfl
  rw [this, ← Nat.pow_mul, ← Nat.pow_add, show 7 * (k + 1) + (57 - 7 * k) = 64 from by omega]

/-- what is cut has just these bytes -/
theorem cutG_back : ∀ (l : List UInt8) (k v x n : Nat), k ≤ 9 → cutG k v l = (x, n, 0) → ∃ y, x = v + y * 128 ^ k ∧ k < n ∧ n ≤ k + l.length ∧ putB y = l.take (n - k) ∧ (0 < k → 0 < y) ∧ y * 128 ^ k < 18446744073709551616 := by
  intro l
  induction l with
  | nil => intro k v x n _ h; simp [cutG] at h
  | cons c l ih =>
    intro k v x n hk h
    unfold cutG at h
    have hc := c.toNat_lt
    by_cases c1 : k = 9 ∧ 1 < c.toNat
    · rw [if_pos c1] at h; simp at h
    rw [if_neg c1] at h
    by_cases c2 : 128 ≤ c.toNat
    · rw [if_pos c2] at h
      obtain ⟨y, h1, h2, h3, h4, h5, h6⟩ := ih _ _ _ _ (by omega) h
      have hy : 0 < y := h5 (by omega)
      have ep : 128 ^ (k + 1) = 128 * 128 ^ k := by rw [Nat.pow_succ, Nat.mul_comm]
      have e3 : (c.toNat % 128 + y * 128) * 128 ^ k = c.toNat % 128 * 128 ^ k + y * 128 ^ (k + 1) := by
        rw [ep, Nat.add_mul, Nat.mul_assoc]
      refine ⟨c.toNat % 128 + y * 128, ?_, by omega, by simp; omega, ?_, by omega, ?_⟩
      · rw [h1, e3]; omega
      · rw [putB, if_neg (by omega)]
        have e1 : UInt8.ofNat ((c.toNat % 128 + y * 128) % 128 + 128) = c := by
          apply UInt8.toNat_inj.1
          simp; omega
        have e2 : (c.toNat % 128 + y * 128) / 128 = y := by omega
        rw [e1, e2, h4]
        have e4 : n - k = (n - (k + 1)) + 1 := by omega
        rw [e4, List.take_succ_cons]
      · rw [e3]
        have hk8 : k < 9 := by omega
        -- y * 128^(k+1) < 2^64 and a multiple of 128^(k+1)
        have hb : c.toNat % 128 * 128 ^ k < 128 ^ (k + 1) := by
          rw [ep]; exact Nat.mul_lt_mul_of_pos_right (by omega) (Nat.pow_pos (by omega))
        obtain ⟨M, hM⟩ := pow_split k (by omega)
        rw [← hM] at h6 ⊢
        have hyM : y < M := by
          rcases Nat.lt_or_ge y M with h' | h'
          · exact h'
          · have := Nat.mul_le_mul_left (128 ^ (k + 1)) h'
            rw [Nat.mul_comm _ y] at this
            omega
        have := Nat.mul_le_mul_left (128 ^ (k + 1)) hyM
        rw [Nat.mul_comm _ (y + 1), Nat.succ_mul] at this
        omega
    · rw [if_neg c2] at h
      by_cases c3 : c.toNat = 0 ∧ 0 < k
      · rw [if_pos c3] at h; simp at h
      rw [if_neg c3] at h
      simp only [Prod.mk.injEq, and_true] at h
      obtain ⟨rfl, rfl⟩ := h
      refine ⟨c.toNat, rfl, by omega, by simp, ?_, by omega, ?_⟩
      · rw [putB, if_pos (by omega)]
        have : k + 1 - k = 1 := by omega
        rw [this]
        have : UInt8.ofNat c.toNat = c := by apply UInt8.toNat_inj.1; simp
        rw [this]; simp
      · by_cases h9 : k = 9
        · subst h9; omega
        · obtain ⟨M, hM⟩ := pow_split k (by omega)
          rw [← hM]
          have ep : 128 ^ (k + 1) = 128 * 128 ^ k := by rw [Nat.pow_succ, Nat.mul_comm]
          have hp : 0 < 128 ^ k := Nat.pow_pos (by omega)
          have hM0 : 0 < M := by
            rcases Nat.eq_zero_or_pos M with h' | h'
            · subst h'; omega
            · exact h'
          have h1 := Nat.mul_le_mul_left (128 ^ (k + 1)) hM0
          have h2 : c.toNat * 128 ^ k < 128 * 128 ^ k := Nat.mul_lt_mul_of_pos_right (by omega) hp
          omega

/-! ### the reference's way: the bytes ahead that say that more follow, then from the last one back -/
/-- how many bytes ahead say that more follow, f at most -/
def contN : Nat → List UInt8 → Nat
  | _, [] => 0
  | 0, _ :: _ => 0
  | f + 1, c :: l => if 128 ≤ c.toNat then contN f l + 1 else 0
/-- what bytes say -/
def valB : List UInt8 → Nat
  | [] => 0
  | c :: l => c.toNat % 128 + 128 * valB l

theorem cutG_ref : ∀ (l : List UInt8) (k v : Nat), k ≤ 9 → cutG k v l =
    (let n := contN (9 - k) l
     if l.length ≤ n then (0, 0, 2) else if k + n = 9 ∧ 1 < (l.getD n 0).toNat then (0, 0, 8) else if (l.getD n 0).toNat = 0 ∧ 0 < k + n then (0, 0, 3) else (v + valB (l.take (n + 1)) * 128 ^ k, k + n + 1, 0)) := by
  intro l
  induction l with
  | nil => intro k v _; simp [cutG, contN]
  | cons c l ih =>
    intro k v hk
    have hc := c.toNat_lt
    unfold cutG
    rcases Nat.lt_or_ge k 9 with h9 | h9
    · have e9 : 9 - k = (9 - (k + 1)) + 1 := by omega
      rw [if_neg (by omega), e9]
      by_cases c2 : 128 ≤ c.toNat
      · rw [if_pos c2, ih (k + 1) _ (by omega)]
        simp only [contN, c2, if_true, List.length_cons, Nat.add_le_add_iff_right, List.getD_cons_succ, List.take_succ_cons, valB]
        have e1 : k + 1 + contN (9 - (k + 1)) l = k + (contN (9 - (k + 1)) l + 1) := by omega
        have e2 : ∀ z, v + c.toNat % 128 * 128 ^ k + z * 128 ^ (k + 1) = v + (c.toNat % 128 + 128 * z) * 128 ^ k := by
          intro z
          rw [Nat.add_mul, Nat.pow_succ, Nat.mul_comm 128 z, Nat.mul_assoc, Nat.mul_comm (128 ^ k) 128]
          omega
        rw [e1, e2]
      · rw [if_neg c2]
        simp [contN, c2, valB]
        have : ¬ k = 9 := by omega
        simp [this]
        by_cases c3 : c.toNat = 0 ∧ 0 < k
        · simp [c3]
        · rw [if_neg c3, if_neg (by simpa using c3)]
          have : c.toNat % 128 = c.toNat := by omega
          rw [this]
    · have : k = 9 := by omega
      subst this
      simp [contN, valB]
      by_cases c1 : 1 < c.toNat
      · simp [c1]
      · simp [c1]
        rw [if_neg (by omega)]
        by_cases c3 : c.toNat = 0
        · simp [c3]
        · simp [c3]; omega
end Go.Proofs.Ythekfgbiplmikaa
