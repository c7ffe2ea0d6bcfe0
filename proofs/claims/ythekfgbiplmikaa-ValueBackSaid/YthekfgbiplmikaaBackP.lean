/- What is encoded is cut as it was; what is cut has just these bytes: in plain words. -/
import Derived.Test.YthekfgbiplmikaaCut5
set_option linter.unusedSimpArgs false
set_option linter.unusedVariables false
namespace Go.Proofs.Ythekfgbiplmikaa
open Go.RowKit

theorem zag_zig (i : Int) : zagZ ((zigZ i).toNat : Nat) = i := by
  unfold zagZ zigZ
  split
  · split <;> omega
  · split <;> omega
theorem zig_zag (x : Nat) (h : x < 18446744073709551616) : (zigZ (zagZ x)).toNat = x := by
  unfold zagZ zigZ
  split
  · split <;> omega
  · split <;> omega
theorem zag_bd (x : Nat) (h : x < 18446744073709551616) : -9223372036854775808 ≤ zagZ x ∧ zagZ x ≤ 9223372036854775807 := by
  unfold zagZ; split <;> omega
theorem ba_empty {s : ByteArray} (h : s.size = 0) : s = ⟨#[]⟩ := ByteArray.ext (Array.eq_empty_of_size_eq_zero h)
theorem ba_back (s : ByteArray) : (⟨s.data.toList.toArray⟩ : ByteArray) = s := by
  apply ByteArray.ext; simp

theorem cutT_put (t tl : List UInt8) (h : t.length ≤ 255) : cutT (putB t.length ++ (t ++ tl)) = (t, (putB t.length).length + t.length, 0) := by
  have hg := cutG_put t.length t.length 0 0 (t ++ tl) (Nat.le_refl _) (by omega) (by omega) (by omega)
  simp only [Nat.zero_add, Nat.pow_zero, Nat.mul_one] at hg
  unfold cutT
  rw [hg]
  simp only [ne_eq, not_true_eq_false, if_false]
  rw [if_neg (by omega), if_neg (by simp)]
  simp

theorem valC_enc (k i : Int) (s : ByteArray) (h : mayB k i s = true) (h0 : -9223372036854775808 ≤ i) (h1 : i ≤ 9223372036854775807) (tl : List UInt8) :
    valC (encB k i s ++ tl) = (⟨k, i, s⟩, (encB k i s).length, 0) := by
  rcases may_cases h with ⟨rfl, rfl, h2⟩ | ⟨rfl, a, b, h2⟩ | ⟨rfl, h2⟩ | ⟨rfl, rfl, h2⟩
  · rw [ba_empty h2]; rfl
  · rw [ba_empty h2]
    have hi : i = 0 ∨ i = 1 := by omega
    rcases hi with rfl | rfl <;> rfl
  · rw [ba_empty h2]
    have hz := zigZ_bd i h0 h1
    have hg := cutG_put (zigZ i).toNat (zigZ i).toNat 0 0 tl (Nat.le_refl _) (by omega) (by omega) (by omega)
    simp only [Nat.zero_add, Nat.pow_zero, Nat.mul_one] at hg
    have e : encB 2 i ⟨#[]⟩ = 2 :: putB (zigZ i).toNat := by simp [encB]
    rw [e]
    simp only [List.cons_append, valC]
    rw [hg]
    dsimp only
    rw [zag_zig]
    have a1 : (2 : UInt8).toNat = 2 := rfl
    simp [a1]
    omega
  · have e : encB 3 0 s = 3 :: (putB s.size ++ s.data.toList) := by simp [encB]
    have hl : s.data.toList.length = s.size := by simp
    have hg := cutT_put s.data.toList tl (by omega)
    rw [hl] at hg
    rw [e]
    simp only [List.cons_append, valC, List.append_assoc]
    rw [hg]
    dsimp only
    rw [hl, if_neg (show ¬ 64 < s.size by omega), ba_back]
    have a1 : (3 : UInt8).toNat = 3 := rfl
    simp [a1]
    omega

theorem valC_err {l : List UInt8} {v : Val} {n : Nat} {e : Int} (h : valC l = (v, n, e)) (he : e ≠ 0) : v = ⟨0, 0, ⟨#[]⟩⟩ ∧ n = 0 := by
  unfold valC at h
  repeat' split at h
  all_goals (simp only [Prod.mk.injEq] at h; obtain ⟨h1, h2, h3⟩ := h)
  all_goals first
    | exact ⟨h1.symm, h2.symm⟩
    | exact absurd h3.symm he

theorem cutT_back {l t : List UInt8} {n : Nat} (h : cutT l = (t, n, 0)) : t.length ≤ 255 ∧ n ≤ l.length ∧ putB t.length ++ t = l.take n := by
  obtain ⟨v, m, e0, hg⟩ : ∃ v m e0, cutG 0 0 l = (v, m, e0) := ⟨_, _, _, rfl⟩
  unfold cutT at h
  rw [hg] at h
  dsimp only at h
  by_cases c1 : e0 = 0
  case neg => rw [if_pos c1] at h; simp at h; exact absurd h.2.2 c1
  subst c1
  rw [if_neg (by simp)] at h
  by_cases c2 : 255 < v
  · rw [if_pos c2] at h; simp at h
  rw [if_neg c2] at h
  by_cases c3 : l.length < m + v
  · rw [if_pos c3] at h; simp at h
  rw [if_neg c3] at h
  simp only [Prod.mk.injEq, and_true] at h
  obtain ⟨rfl, rfl⟩ := h
  obtain ⟨y, h1, h2, h3, h4, _, _⟩ := cutG_back l 0 0 v m (by omega) hg
  have hy : y = v := by simp at h1; exact h1.symm
  subst hy
  have hlen : ((l.drop m).take y).length = y := by simp; omega
  refine ⟨by omega, by omega, ?_⟩
  rw [hlen, h4, Nat.sub_zero, List.take_add]

theorem valC_back {l : List UInt8} {v : Val} {n : Nat} (h : valC l = (v, n, 0)) :
    mayB v.k v.i v.s = true ∧ 1 ≤ n ∧ n ≤ l.length ∧ encB v.k v.i v.s = l.take n ∧ -9223372036854775808 ≤ v.i ∧ v.i ≤ 9223372036854775807 := by
  cases l with
  | nil => simp [valC] at h
  | cons c l =>
    unfold valC at h
    dsimp only at h
    have hc256 := c.toNat_lt
    by_cases q0 : c.toNat = 0
    · rw [if_pos q0] at h
      simp only [Prod.mk.injEq, and_true] at h
      obtain ⟨rfl, rfl⟩ := h
      have : c = 0 := UInt8.toNat_inj.1 (by simpa using q0)
      subst this
      exact ⟨rfl, by omega, by simp, rfl, by decide, by decide⟩
    rw [if_neg q0] at h
    by_cases q1 : c.toNat = 1
    · rw [if_pos q1] at h
      have : c = 1 := UInt8.toNat_inj.1 (by simpa using q1)
      subst this
      cases l with
      | nil => simp at h
      | cons d l =>
        by_cases q2 : 1 < d.toNat
        · simp [q2] at h
        · simp only [q2, if_false, Prod.mk.injEq, and_true] at h
          obtain ⟨rfl, rfl⟩ := h
          have : d.toNat = 0 ∨ d.toNat = 1 := by omega
          rcases this with h | h
          · have : d = 0 := UInt8.toNat_inj.1 (by simpa using h)
            subst this
            exact ⟨rfl, by omega, by simp, rfl, by decide, by decide⟩
          · have : d = 1 := UInt8.toNat_inj.1 (by simpa using h)
            subst this
            exact ⟨rfl, by omega, by simp, rfl, by decide, by decide⟩
    rw [if_neg q1] at h
    by_cases q2 : c.toNat = 2
    · rw [if_pos q2] at h
      have : c = 2 := UInt8.toNat_inj.1 (by simpa using q2)
      subst this
      obtain ⟨x, m, e0, hg⟩ : ∃ x m e0, cutG 0 0 l = (x, m, e0) := ⟨_, _, _, rfl⟩
      rw [hg] at h
      dsimp only at h
      by_cases h0 : e0 = 0
      case neg => rw [if_pos h0] at h; simp at h; exact absurd h.2.2 h0
      subst h0
      rw [if_neg (by simp)] at h
      simp only [Prod.mk.injEq, and_true] at h
      obtain ⟨rfl, rfl⟩ := h
      have hx := (cutG_lt hg).1
      obtain ⟨y, h1, h2, h3, h4, _, _⟩ := cutG_back l 0 0 x m (by omega) hg
      have hy : y = x := by simp at h1; exact h1.symm
      subst hy
      refine ⟨?_, by omega, by simp; omega, ?_, (zag_bd y hx).1, (zag_bd y hx).2⟩
      · simp [mayB]; rfl
      · have e : encB 2 (zagZ y) ⟨#[]⟩ = 2 :: putB (zigZ (zagZ y)).toNat := by simp [encB]
        rw [show encB (2 : Int) (zagZ y) ⟨#[]⟩ = _ from e, zig_zag y hx, h4, Nat.add_comm 1 m, List.take_succ_cons, Nat.sub_zero]
    rw [if_neg q2] at h
    by_cases q3 : c.toNat = 3
    · rw [if_pos q3] at h
      have : c = 3 := UInt8.toNat_inj.1 (by simpa using q3)
      subst this
      obtain ⟨t, m, e0, hg⟩ : ∃ t m e0, cutT l = (t, m, e0) := ⟨_, _, _, rfl⟩
      rw [hg] at h
      dsimp only at h
      by_cases h0 : e0 = 0
      case neg => rw [if_pos h0] at h; simp at h; exact absurd h.2.2 h0
      subst h0
      rw [if_neg (by simp)] at h
      by_cases h64 : 64 < t.length
      · rw [if_pos h64] at h; simp at h
      rw [if_neg h64] at h
      simp only [Prod.mk.injEq, and_true] at h
      obtain ⟨rfl, rfl⟩ := h
      obtain ⟨h1, h2, h3⟩ := cutT_back hg
      have hsz := ba_size t
      refine ⟨?_, by omega, by simp; omega, ?_, by simp, by simp⟩
      · simp [mayB, hsz]; omega
      · have e : encB 3 0 ⟨t.toArray⟩ = 3 :: (putB t.length ++ t) := by simp [encB, hsz]
        rw [show encB (3 : Int) 0 ⟨t.toArray⟩ = _ from e, h3, Nat.add_comm 1 m, List.take_succ_cons]
    rw [if_neg q3] at h
    simp at h
end Go.Proofs.Ythekfgbiplmikaa
