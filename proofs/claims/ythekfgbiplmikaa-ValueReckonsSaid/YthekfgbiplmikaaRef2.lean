/- The contract of the reference's product: bit by bit. -/
import Derived.Test.YthekfgbiplmikaaRef1
import Derived.Lib.EndianBits
set_option linter.unusedSimpArgs false
set_option linter.unusedVariables false
namespace Go.Proofs.Ythekfgbiplmikaa
open Go.RowKit

theorem prod_big (x y q : Int) (k : Nat) (hx : 0 ≤ x) (hy : 0 ≤ y) (hq : q = y / 2 ^ k) : x * q ≤ x * y := by
  apply Int.mul_le_mul_of_nonneg_left _ hx
  subst hq
  exact Int.ediv_le_self _ hy
theorem bit_split (y : Int) (k : Nat) : y / 2 ^ k = 2 * (y / 2 ^ (k + 1)) + y / 2 ^ k % 2 := by
  have : y / 2 ^ (k + 1) = y / 2 ^ k / 2 := by
    rw [Int.pow_succ, Int.ediv_ediv_of_nonneg (Int.pow_nonneg (by omega))]
  rw [this]; omega

theorem and_one (t : Int) (h0 : 0 ≤ t) (h1 : t ≤ 9223372036854775808) : bits BinOp.and IntKind.u64 t 1 = t % 2 := by
  have h := bits_mask .u64 64 (by decide) wraps_u64 1 (by decide) t h0 (by omega)
  simpa using h

theorem bit_step (x y pn : Int) (k : Nat) (h : pn = x * (y / 2 ^ (k + 1))) : (y / 2 ^ k % 2 = 0 ∧ x * (y / 2 ^ k) = 2 * pn) ∨ (y / 2 ^ k % 2 = 1 ∧ x * (y / 2 ^ k) = 2 * pn + x) := by
  have hs := bit_split y k
  generalize y / 2 ^ k = t at *
  generalize y / 2 ^ (k + 1) = q at *
  rcases Int.emod_two_eq t with h2 | h2
  · refine .inl ⟨h2, ?_⟩
    rw [h2] at hs
    rw [hs, h, Int.add_zero, ← Int.mul_assoc, Int.mul_comm x 2, Int.mul_assoc]
  · refine .inr ⟨h2, ?_⟩
    rw [h2] at hs
    rw [hs, h, Int.mul_add, Int.mul_one, ← Int.mul_assoc, Int.mul_comm x 2, Int.mul_assoc]

set_option maxHeartbeats 4000000 in
theorem product_core (a b x y : Int) (sa sb : Bool) (C1 : RowKit.Hid (∀ w, Calls Try.prog 46 #[.int .i64 a] w fun e w' => e = .returned (.int .u64 x) ∧ Ext w w')) (C2 : RowKit.Hid (∀ w, Calls Try.prog 46 #[.int .i64 b] w fun e w' => e = .returned (.int .u64 y) ∧ Ext w w'))
    (ha : decide (a < 0) = sa) (hb : decide (b < 0) = sb) (hx : 0 ≤ x ∧ x ≤ 9223372036854775808) (hy : 0 ≤ y ∧ y ≤ 9223372036854775808) (w : World) :
    Calls Try.prog 45 #[.int .i64 a, .int .i64 b] w fun e w' => ∃ z, e = .returned (.tuple #[.int .i64 z, .bool (decide (In64 (if (sa != sb) = true then -(x * y) else x * y)))]) ∧ (In64 (if (sa != sb) = true then -(x * y) else x * y) → z = if (sa != sb) = true then -(x * y) else x * y) ∧ Ext w w' := by
  have hP : ∃ P, x * y = P := ⟨_, rfl⟩
  obtain ⟨P, hP⟩ := hP
  rw [hP]
  have HP := Lib.hid hP
  clear hP
  cases sa <;> cases sb <;> simp only [decide_eq_true_eq, decide_eq_false_iff_not] at ha hb
  all_goals
    simp only [bne_self_eq_false, Bool.bne_false, Bool.bne_true, Bool.not_true, Bool.not_false, Bool.false_eq_true, if_true, if_false]
    go_enter Try.func45, Try.ntmps45
    go_wp2_with (go_at_call 46; (first | with_reducible refine (C1.out _).mono ?_ | with_reducible refine (C2.out _).mono ?_); rintro e _ ⟨rfl, d, os, rfl⟩)
    go_loopw [9, 10] (fun p i wr => ∃ (pn : Int) (k : Nat), k ≤ 64 ∧ p = .int .u64 pn ∧ i = .int .i64 ((k : Int) - 1) ∧ 0 ≤ pn ∧ pn ≤ 9223372036854775808 ∧ pn = x * (y / 2 ^ k) ∧ Ext w wr) (fun _ i _ => (intOf i + 1).toNat)
    case atStart =>
      have : y / 2 ^ 64 = 0 := Int.ediv_eq_zero_of_lt (by omega) (by omega)
      exact ⟨0, 64, by omega, rfl, rfl, by omega, by omega, by rw [this]; simp, by repeat (first | exact Ext.refl _ | apply Ext.alloc | apply Ext.more)⟩
  all_goals
    obtain ⟨pn, k, hk, rfl, rfl, h0, h1, hp, hext⟩ := hrel
    have Hp := Lib.hid hp
    clear hp
    cases k with
    | zero =>
      have hPp : pn = P := by have := Hp.out; rw [← HP.out, this]; simp
      clear Hp HP
      go_wp2
      all_goals
        subst hPp
        go_ret2
        refine ⟨_, ret_intb rfl ?_, ?_, by repeat (first | exact hext | apply Ext.alloc | apply Ext.more)⟩
      all_goals try simp only [beq_iff_eq, beq_eq_false_iff_ne, ne_eq] at *
      all_goals first
        | (refine (decide_eq_true ?_).symm; unfold In64; omega)
        | (refine (decide_eq_false ?_).symm; unfold In64; omega)
        | (intro h; unfold In64 at h; omega)
        | (unfold In64; omega)
        | (intro h; unfold In64 at h; unfold wrap64; omega)
        | omega
    | succ k =>
      have hstep := bit_step x y pn k Hp.out
      have hbig := prod_big x y (y / 2 ^ k) k hx.1 hy.1 rfl
      rw [HP.out] at hbig
      have ht0 : 0 ≤ y / 2 ^ k := Int.ediv_nonneg hy.1 (Int.pow_nonneg (by omega))
      have ht1 : y / 2 ^ k ≤ 9223372036854775808 := Int.le_trans (Int.ediv_le_self _ hy.1) hy.2
      have hand := and_one (y / 2 ^ k) ht0 ht1
      have Hs := Lib.hid hstep
      have Hb := Lib.hid hbig
      have Ha := Lib.hid hand
      clear Hp HP hstep hbig hand ht0 ht1
      go_wp2
      all_goals first
        | (go_ret2
           refine ⟨_, ret_intb rfl ?_, ?_, by repeat (first | exact hext | apply Ext.alloc | apply Ext.more)⟩)
        | refine ⟨⟨_, k, by omega, rfl, rfl, ?_, ?_, ?_, hext⟩, by simp [intOf]⟩
      all_goals
        have Hs' := Hs.out
        have Hb' := Hb.out
        clear Hs Hb
        try simp only [Ha.out, beq_iff_eq, beq_eq_false_iff_ne, ne_eq] at *
        clear Ha
        first
        | (refine (decide_eq_false ?_).symm; unfold In64; omega)
        | (intro h; unfold In64 at h; omega)
        | omega

/-- the product of two numbers -/
theorem product_any (a b : Int) (ha : In64 a) (hb : In64 b) (w : World) :
    Calls Try.prog 45 #[.int .i64 a, .int .i64 b] w fun e w' => ∃ z, e = .returned (.tuple #[.int .i64 z, .bool (decide (In64 (a * b)))]) ∧ (In64 (a * b) → z = a * b) ∧ Ext w w' := by
  have h := product_core a b a.natAbs b.natAbs (decide (a < 0)) (decide (b < 0)) (Lib.hid (size_any a ha)) (Lib.hid (size_any b hb)) rfl rfl (by unfold In64 at ha; omega) (by unfold In64 at hb; omega) w
  have e : (if (decide (a < 0) != decide (b < 0)) = true then -((a.natAbs : Int) * b.natAbs) else (a.natAbs : Int) * b.natAbs) = a * b := by
    by_cases h1 : a < 0
    · have e1 : (a.natAbs : Int) = -a := by omega
      by_cases h2 : b < 0
      · have e2 : (b.natAbs : Int) = -b := by omega
        rw [e1, e2]; simp [h1, h2, Int.neg_mul_neg]
      · have e2 : (b.natAbs : Int) = b := by omega
        rw [e1, e2]; simp [h1, h2, Int.neg_mul]
    · have e1 : (a.natAbs : Int) = a := by omega
      by_cases h2 : b < 0
      · have e2 : (b.natAbs : Int) = -b := by omega
        rw [e1, e2]; simp [h1, h2, Int.mul_neg]
      · have e2 : (b.natAbs : Int) = b := by omega
        rw [e1, e2]; simp [h1, h2]
  rw [e] at h
  exact h
end Go.Proofs.Ythekfgbiplmikaa
