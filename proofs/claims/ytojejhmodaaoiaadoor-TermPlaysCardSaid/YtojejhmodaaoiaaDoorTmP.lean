/- Two lists of numbers have one text just if they are the same. -/
import Derived.Test.YtojejhmodaaoiaaDoorTm3
set_option linter.unusedSimpArgs false
set_option linter.unusedVariables false
namespace Go.Proofs.YtojejhmodaaoiaaDoor
open Go.RowKit

def decV (l : List UInt8) : Nat := l.foldl (fun a c => 10 * a + (c.toNat - 48)) 0
theorem decV_dec : ∀ (n u : Nat), u < n → decV (Lib.decDigits u) = u ∧ (∀ c ∈ Lib.decDigits u, 48 ≤ c.toNat ∧ c.toNat ≤ 57) ∧ Lib.decDigits u ≠ []
  | 0, u, h => by omega
  | n + 1, u, h => by
    rw [Lib.decDigits]
    split
    · next h1 =>
      have e : (UInt8.ofNat (48 + u)).toNat = 48 + u := by simp; omega
      refine ⟨?_, ?_, by simp⟩
      · simp only [decV, List.foldl_cons, List.foldl_nil, e]; omega
      · intro c hc; simp only [List.mem_singleton] at hc; subst hc; rw [e]; omega
    · next h1 =>
      obtain ⟨h2, h3, _⟩ := decV_dec n (u / 10) (by omega)
      have e : (UInt8.ofNat (48 + u % 10)).toNat = 48 + u % 10 := by simp; omega
      refine ⟨?_, ?_, by simp⟩
      · unfold decV at h2 ⊢
        rw [List.foldl_append, h2]
        simp only [List.foldl_cons, List.foldl_nil, e]; omega
      · intro c hc
        rcases List.mem_append.1 hc with hc | hc
        · exact h3 c hc
        · simp only [List.mem_singleton] at hc; subst hc; rw [e]; omega
theorem itoa_inj (a b : Int) (h : Lib.itoa a = Lib.itoa b) : a = b := by
  have key : ∀ u, decV (Lib.decDigits u) = u ∧ (∀ c ∈ Lib.decDigits u, 48 ≤ c.toNat ∧ c.toNat ≤ 57) ∧ Lib.decDigits u ≠ [] := fun u => decV_dec (u + 1) u (by omega)
  have no45 : ∀ (u : Nat) (l : List UInt8), Lib.decDigits u = 45 :: l → False := fun u l e => by
    have := (key u).2.1 45 (by rw [e]; simp)
    simp at this
  unfold Lib.itoa at h
  split at h
  · split at h
    · simp only [List.cons.injEq, true_and] at h
      have := congrArg decV h
      rw [(key _).1, (key _).1] at this
      omega
    · exact (no45 _ _ h.symm).elim
  · split at h
    · exact (no45 _ _ h).elim
    · have := congrArg decV h
      rw [(key _).1, (key _).1] at this
      omega
theorem itoa_comma (a : Int) : ∀ c ∈ Lib.itoa a, c ≠ 44 := by
  intro c hc e
  subst e
  unfold Lib.itoa at hc
  split at hc
  · rcases List.mem_cons.1 hc with h | h
    · exact absurd h (by decide)
    · have := (decV_dec _ _ (Nat.lt_succ_self _)).2.1 44 h; simp at this
  · have := (decV_dec _ _ (Nat.lt_succ_self _)).2.1 44 hc; simp at this
theorem cut_comma : ∀ (u v r s : List UInt8), (∀ c ∈ u, c ≠ 44) → (∀ c ∈ v, c ≠ 44) → u ++ 44 :: r = v ++ 44 :: s → u = v ∧ r = s
  | [], [], r, s, _, _, h => by simp at h; exact ⟨rfl, h⟩
  | [], y :: v, r, s, _, hv, h => by simp at h; exact absurd h.1.symm (hv y (by simp))
  | x :: u, [], r, s, hu, _, h => by simp at h; exact absurd h.1 (hu x (by simp))
  | x :: u, y :: v, r, s, hu, hv, h => by
    simp at h
    obtain ⟨h1, h2⟩ := cut_comma u v r s (fun c hc => hu c (by simp [hc])) (fun c hc => hv c (by simp [hc])) h.2
    exact ⟨by rw [h.1, h1], h2⟩
theorem digF_inj : ∀ (l m : List Int), digF l = digF m → l = m
  | [], [], _ => rfl
  | [], y :: m, h => by
    have e : digF (y :: m) = Lib.itoa y ++ 44 :: digF m := by simp [digF]
    rw [e] at h
    have := congrArg List.length h
    simp [digF] at this
  | x :: l, [], h => by
    have e : digF (x :: l) = Lib.itoa x ++ 44 :: digF l := by simp [digF]
    rw [e] at h
    have := congrArg List.length h
    simp [digF] at this
  | x :: l, y :: m, h => by
    have e : ∀ x l, digF (x :: l) = Lib.itoa x ++ 44 :: digF l := fun x l => by simp [digF]
    rw [e, e] at h
    obtain ⟨h1, h2⟩ := cut_comma _ _ _ _ (itoa_comma x) (itoa_comma y) h
    rw [itoa_inj x y h1, digF_inj l m h2]
theorem dig_ba (l m : List Int) (h : (⟨(digF l).toArray⟩ : ByteArray) = ⟨(digF m).toArray⟩) : l = m := by
  apply digF_inj
  have := congrArg (fun z : ByteArray => z.data.toList) h
  simpa using this
theorem of_two (s t : ByteArray) : ofF [] s = ([s], 1, 0) ∧ (s = t → ofF [s] t = ([s], 1, 0)) ∧ (s ≠ t → ofF [s] t = ([s, t], 2, 0)) := by
  refine ⟨by simp [ofF, idxF], fun h => by subst h; simp [ofF, idxF], fun h => by simp [ofF, idxF, h]⟩
end Go.Proofs.YtojejhmodaaoiaaDoor
