/- The contracts of the reference's arithmetic by halves: half, sum, less, size, signed. -/
import Derived.Test.YthekfgbiplmikaaVal2
set_option linter.unusedSimpArgs false
set_option linter.unusedVariables false
namespace Go.Proofs.Ythekfgbiplmikaa
open Go.RowKit

theorem ret_int2 {k k' : IntKind} {a b c d : Int} (h : a = c) (h' : b = d) : Ending.returned (.tuple #[.int k a, .int k' b]) = .returned (.tuple #[.int k c, .int k' d]) := by rw [h, h']
theorem ret_intb {k : IntKind} {a c : Int} {b d : Bool} (h : a = c) (h' : b = d) : Ending.returned (.tuple #[.int k a, .bool b]) = .returned (.tuple #[.int k c, .bool d]) := by rw [h, h']

theorem half_split (a : Int) : a.tmod 4294967296 + a.tdiv 4294967296 * 4294967296 = a ∧ (0 ≤ a → 0 ≤ a.tmod 4294967296) ∧ (a ≤ 0 → a.tmod 4294967296 ≤ 0) ∧ -4294967296 < a.tmod 4294967296 ∧ a.tmod 4294967296 < 4294967296 := by
  have hd := Int.tmod_add_mul_tdiv a 4294967296
  have h1 : 0 ≤ a → 0 ≤ a.tmod 4294967296 := fun h => Int.tmod_nonneg _ h
  have h2 : a ≤ 0 → a.tmod 4294967296 ≤ 0 := fun h => by
    have := Int.tmod_nonneg 4294967296 (a := -a) (by omega)
    rw [Int.neg_tmod] at this
    omega
  have h3 : (a.tmod 4294967296).natAbs < 4294967296 := by
    rw [Int.natAbs_tmod]; exact Nat.mod_lt _ (by decide)
  refine ⟨by rw [Int.mul_comm] at hd; exact hd, h1, h2, by omega, by omega⟩

set_option maxHeartbeats 400000 in
theorem half_any (a : Int) (ha : In64 a) (w : World) :
    Calls Try.prog 58 #[.int .i64 a] w fun e w' => e = .returned (.tuple #[.int .i64 (a / 4294967296), .int .i64 (a % 4294967296)]) ∧ Ext w w' := by
  obtain ⟨h1, h2⟩ := ha
  obtain ⟨s1, s2, s3, s4, s5⟩ := half_split a
  go_enter Try.func58, Try.ntmps58
  go_wp2
  all_goals
    go_ret2
    go_tidy
    refine ⟨ret_int2 ?_ ?_, by repeat (first | exact Ext.refl _ | apply Ext.alloc | apply Ext.more)⟩
  all_goals
    generalize a.tmod 4294967296 = r at *
    generalize a.tdiv 4294967296 = q at *
    omega

set_option maxHeartbeats 400000 in
theorem size_any (a : Int) (ha : In64 a) (w : World) :
    Calls Try.prog 46 #[.int .i64 a] w fun e w' => e = .returned (.int .u64 (a.natAbs : Int)) ∧ Ext w w' := by
  obtain ⟨h1, h2⟩ := ha
  go_enter Try.func46, Try.ntmps46
  go_wp2
  all_goals
    go_ret
    go_tidy
    refine ⟨ret_int ?_, by repeat (first | exact Ext.refl _ | apply Ext.alloc | apply Ext.more)⟩
    omega

set_option maxHeartbeats 400000 in
theorem sum_any (a b : Int) (ha : In64 a) (hb : In64 b) (w : World) :
    Calls Try.prog 43 #[.int .i64 a, .int .i64 b] w fun e w' => e = .returned (.tuple #[.int .i64 (numR (a + b)).1, .bool (decide (In64 (a + b)))]) ∧ Ext w w' := by
  have c1 := fun w => half_any a ha w
  have c2 := fun w => half_any b hb w
  obtain ⟨e1, e2, e3⟩ : a % 4294967296 + a / 4294967296 * 4294967296 = a ∧ 0 ≤ a % 4294967296 ∧ a % 4294967296 < 4294967296 := by omega
  obtain ⟨f1, f2, f3⟩ : b % 4294967296 + b / 4294967296 * 4294967296 = b ∧ 0 ≤ b % 4294967296 ∧ b % 4294967296 < 4294967296 := by omega
  generalize a % 4294967296 = al at *
  generalize a / 4294967296 = ah at *
  generalize b % 4294967296 = bl at *
  generalize b / 4294967296 = bh at *
  have C1 := Lib.hid c1
  have C2 := Lib.hid c2
  clear c1 c2
  unfold In64 at ha hb
  go_enter Try.func43, Try.ntmps43
  go_wp2_with (go_at_call 58; (first | with_reducible refine (C1.out _).mono ?_ | with_reducible refine (C2.out _).mono ?_); rintro e _ ⟨rfl, d, os, rfl⟩)
  all_goals
    go_ret2
    go_tidy
    clear C1 C2
    refine ⟨?_, by repeat (first | exact Ext.refl _ | apply Ext.alloc | apply Ext.more)⟩
    by_cases h : In64 (a + b)
    · have e1 : numR (a + b) = (a + b, 0) := by unfold numR; rw [if_pos h]
      rw [e1, decide_eq_true h]
      unfold In64 at h
      first | (refine ret_intb ?_ rfl; omega) | (exfalso; omega)
    · have e1 : numR (a + b) = (0, 8) := by unfold numR; rw [if_neg h]
      rw [e1, decide_eq_false h]
      unfold In64 at h
      first | exact ret_intb rfl rfl | (exfalso; omega)

set_option maxHeartbeats 400000 in
theorem rless_any (a b : Int) (ha : In64 a) (hb : In64 b) (w : World) :
    Calls Try.prog 44 #[.int .i64 a, .int .i64 b] w fun e w' => e = .returned (.tuple #[.int .i64 (numR (a - b)).1, .bool (decide (In64 (a - b)))]) ∧ Ext w w' := by
  have c1 := fun w => half_any a ha w
  have c2 := fun w => half_any b hb w
  obtain ⟨e1, e2, e3⟩ : a % 4294967296 + a / 4294967296 * 4294967296 = a ∧ 0 ≤ a % 4294967296 ∧ a % 4294967296 < 4294967296 := by omega
  obtain ⟨f1, f2, f3⟩ : b % 4294967296 + b / 4294967296 * 4294967296 = b ∧ 0 ≤ b % 4294967296 ∧ b % 4294967296 < 4294967296 := by omega
  generalize a % 4294967296 = al at *
  generalize a / 4294967296 = ah at *
  generalize b % 4294967296 = bl at *
  generalize b / 4294967296 = bh at *
  have C1 := Lib.hid c1
  have C2 := Lib.hid c2
  clear c1 c2
  unfold In64 at ha hb
  go_enter Try.func44, Try.ntmps44
  go_wp2_with (go_at_call 58; (first | with_reducible refine (C1.out _).mono ?_ | with_reducible refine (C2.out _).mono ?_); rintro e _ ⟨rfl, d, os, rfl⟩)
  all_goals
    go_ret2
    go_tidy
    clear C1 C2
    refine ⟨?_, by repeat (first | exact Ext.refl _ | apply Ext.alloc | apply Ext.more)⟩
    by_cases h : In64 (a - b)
    · have e1 : numR (a - b) = (a - b, 0) := by unfold numR; rw [if_pos h]
      rw [e1, decide_eq_true h]
      unfold In64 at h
      first | (refine ret_intb ?_ rfl; omega) | (exfalso; omega)
    · have e1 : numR (a - b) = (0, 8) := by unfold numR; rw [if_neg h]
      rw [e1, decide_eq_false h]
      unfold In64 at h
      first | exact ret_intb rfl rfl | (exfalso; omega)

set_option maxHeartbeats 400000 in
theorem signed_any (n : Int) (neg : Bool) (hn : 0 ≤ n ∧ n ≤ 9223372036854775808) (w : World) :
    Calls Try.prog 47 #[.int .u64 n, .bool neg] w fun e w' => ∃ z, e = .returned (.tuple #[.int .i64 z, .bool (decide (In64 (if neg = true then -n else n)))]) ∧ (In64 (if neg = true then -n else n) → z = if neg = true then -n else n) ∧ Ext w w' := by
  obtain ⟨h1, h2⟩ := hn
  by_cases hm : n = 9223372036854775808
  · subst hm
    cases neg
    all_goals
      go_enter Try.func47, Try.ntmps47
      go_wp2
      go_ret2
      go_tidy
    · exact ⟨-9223372036854775808, by simp [In64], by simp [In64], by repeat (first | exact Ext.refl _ | apply Ext.alloc | apply Ext.more)⟩
    · exact ⟨-9223372036854775808, by simp [In64], by simp [In64], by repeat (first | exact Ext.refl _ | apply Ext.alloc | apply Ext.more)⟩
  · have hm' : (n == 9223372036854775808) = false := by simpa using hm
    have hi : In64 n := by unfold In64; omega
    have hi' : In64 (-n) := by unfold In64; omega
    cases neg
    all_goals
      go_enter Try.func47, Try.ntmps47
      go_wp2
      go_ret2
      go_tidy
    · refine ⟨n, ?_, by intros; rfl, by repeat (first | exact Ext.refl _ | apply Ext.alloc | apply Ext.more)⟩
      refine ret_intb ?_ ?_
      · first | rfl | omega
      · simp [hi]
    · refine ⟨-n, ?_, by intros; rfl, by repeat (first | exact Ext.refl _ | apply Ext.alloc | apply Ext.more)⟩
      refine ret_intb ?_ ?_
      · first | rfl | omega
      · simp [hi']
end Go.Proofs.Ythekfgbiplmikaa
