/- The contracts of value's sums: Add, Sub, Mul, Div, Mod. -/
import Derived.Test.YtoaaklcbcbjaiaaDoorVal1
set_option linter.unusedSimpArgs false
set_option linter.unusedVariables false
namespace Go.Proofs.YtoaaklcbcbjaiaaDoor
open Go.RowKit

def In64 (n : Int) : Prop := -9223372036854775808 ≤ n ∧ n ≤ 9223372036854775807
instance (n : Int) : Decidable (In64 n) := by unfold In64; infer_instance
def numR (n : Int) : Int × Int := if In64 n then (n, 0) else (0, 8)

set_option maxHeartbeats 400000 in
theorem addc_any (a b : Int) (ha : In64 a) (hb : In64 b) (w : World) :
    Calls Tryd.prog 32 #[.int .i64 a, .int .i64 b] w fun e w' => e = .returned (.tuple #[.int .i64 (numR (a + b)).1, .int .i64 (numR (a + b)).2]) ∧ Ext w w' := by
  obtain ⟨ha1, ha2⟩ := ha
  obtain ⟨hb1, hb2⟩ := hb
  by_cases h : In64 (a + b)
  · have e1 : numR (a + b) = (a + b, 0) := by unfold numR; rw [if_pos h]
    rw [e1]; clear e1
    obtain ⟨h1, h2⟩ := h
    go_enter Tryd.func32, Tryd.ntmps32
    go_wp2
    all_goals
      go_ret2
      go_tidy
      first
        | exact ⟨rfl, Ext.refl _⟩
        | (exfalso; simp at *; omega)
  · have e1 : numR (a + b) = (0, 8) := by unfold numR; rw [if_neg h]
    rw [e1]; clear e1
    have h' : a + b < -9223372036854775808 ∨ 9223372036854775807 < a + b := by unfold In64 at h; omega
    clear h
    rcases h' with h | h
    all_goals
      go_enter Tryd.func32, Tryd.ntmps32
      go_wp2
      all_goals
        go_ret2
        go_tidy
        first
          | exact ⟨rfl, Ext.refl _⟩
          | (exfalso; unfold wrap64 at *; simp at *; omega)

/-! ### the product: plain arithmetic -/
theorem mul_back (a b : Int) (hb : b ≠ 0) : (a * b).tdiv b = a := Int.mul_tdiv_cancel a hb
/-- where the product does not fit, what is left of it does not come apart -/
theorem mul_over (a b : Int) (h : ¬ In64 (a * b)) (hq : (wrap64 (a * b)).tdiv b = a) : False := by
  have hc : In64 (wrap64 (a * b)) := by unfold wrap64 In64; omega
  generalize wrap64 (a * b) = c at *
  obtain ⟨c1, c2⟩ := hc
  have hd := Int.tmod_add_mul_tdiv c b
  rw [hq, Int.mul_comm b a] at hd
  generalize a * b = p at *
  have hn : (c.tmod b).natAbs ≤ c.natAbs := by rw [Int.natAbs_tmod]; exact Nat.mod_le _ _
  have hs : (0 ≤ c → 0 ≤ c.tmod b) ∧ (c ≤ 0 → c.tmod b ≤ 0) := by
    refine ⟨fun h0 => Int.tmod_nonneg b h0, fun h0 => ?_⟩
    have h1 := Int.tmod_nonneg b (a := -c) (by omega)
    rw [Int.neg_tmod] at h1
    omega
  apply h
  unfold In64
  omega

def divR (a b : Int) : Int × Int := if b = 0 then (0, 9) else numR (a.tdiv b)
def modR (a b : Int) : Int × Int := if b = 0 then (0, 9) else (a.tmod b, 0)

set_option maxHeartbeats 400000 in
theorem divc_core (a b : Int) (p1 p2 : Bool) (b0 : (b == 0) = false) (h1 : (b == -1) = p1) (h2 : (a == -9223372036854775808) = p2) (hb : ¬ b = 0) (w : World) :
    Calls Tryd.prog 33 #[.int .i64 a, .int .i64 b] w fun e w' =>
      e = .returned (.tuple #[.int .i64 (if (p1 && p2) = true then 0 else wrap64 (a.tdiv b)), .int .i64 (if (p1 && p2) = true then 8 else 0)]) ∧ Ext w w' := by
  go_enter Tryd.func33, Tryd.ntmps33
  go_wp2
  all_goals
    go_ret2
    go_tidy
    refine ⟨?_, Ext.refl _⟩
    simp_all

theorem divc_any (a b : Int) (ha : In64 a) (hb : In64 b) (w : World) :
    Calls Tryd.prog 33 #[.int .i64 a, .int .i64 b] w fun e w' => e = .returned (.tuple #[.int .i64 (divR a b).1, .int .i64 (divR a b).2]) ∧ Ext w w' := by
  by_cases b0 : b = 0
  · subst b0
    have e1 : divR a 0 = (0, 9) := rfl
    rw [e1]; clear e1
    go_enter Tryd.func33, Tryd.ntmps33
    go_wp2
    go_ret2
    exact ⟨rfl, Ext.refl _⟩
  refine (divc_core a b _ _ (by simpa using b0) rfl rfl b0 w).mono ?_
  rintro e w' ⟨rfl, hx⟩
  refine ⟨?_, hx⟩
  have e1 : divR a b = numR (a.tdiv b) := by unfold divR; rw [if_neg b0]
  rw [e1]
  unfold In64 at *
  by_cases h : b = -1 ∧ a = -9223372036854775808
  · obtain ⟨rfl, rfl⟩ := h
    rfl
  · have hf : (b == -1 && a == -9223372036854775808) = false := by
      apply Bool.eq_false_iff.2
      intro hh; simp at hh; exact h hh
    have hr : -9223372036854775808 ≤ a.tdiv b ∧ a.tdiv b ≤ 9223372036854775807 := by
      have hn : (a.tdiv b).natAbs ≤ a.natAbs := by rw [Int.natAbs_tdiv]; exact Nat.div_le_self _ _
      by_cases hb1 : b = -1
      · subst hb1
        have : a.tdiv (-1) = -a := by rw [Int.tdiv_neg, Int.tdiv_one]
        rw [this]; omega
      · by_cases ha0 : a = -9223372036854775808
        · subst ha0
          by_cases hb2 : b = 1
          · subst hb2; rw [Int.tdiv_one]; omega
          · have hn2 : ((-9223372036854775808 : Int).tdiv b).natAbs ≤ 9223372036854775808 / 2 := by
              rw [Int.natAbs_tdiv]
              exact Nat.div_le_div_left (by omega) (by omega)
            omega
        · omega
    have hn : numR (a.tdiv b) = (a.tdiv b, 0) := by unfold numR; exact if_pos hr
    have hw : wrap64 (a.tdiv b) = a.tdiv b := by
      generalize a.tdiv b = q at *
      unfold wrap64; omega
    rw [hn, hf, hw]; rfl

set_option maxHeartbeats 400000 in
theorem modc_core (a b : Int) (p1 : Bool) (b0 : (b == 0) = false) (h1 : (b == -1) = p1) (hb : ¬ b = 0) (w : World) :
    Calls Tryd.prog 34 #[.int .i64 a, .int .i64 b] w fun e w' =>
      e = .returned (.tuple #[.int .i64 (if p1 = true then 0 else a.tmod b), .int .i64 0]) ∧ Ext w w' := by
  go_enter Tryd.func34, Tryd.ntmps34
  go_wp2
  all_goals
    go_ret2
    go_tidy
    refine ⟨?_, Ext.refl _⟩
    simp_all

theorem modc_any (a b : Int) (ha : In64 a) (hb : In64 b) (w : World) :
    Calls Tryd.prog 34 #[.int .i64 a, .int .i64 b] w fun e w' => e = .returned (.tuple #[.int .i64 (modR a b).1, .int .i64 (modR a b).2]) ∧ Ext w w' := by
  by_cases b0 : b = 0
  · subst b0
    have e1 : modR a 0 = (0, 9) := rfl
    rw [e1]; clear e1
    go_enter Tryd.func34, Tryd.ntmps34
    go_wp2
    go_ret2
    exact ⟨rfl, Ext.refl _⟩
  refine (modc_core a b _ (by simpa using b0) rfl b0 w).mono ?_
  rintro e w' ⟨rfl, hx⟩
  refine ⟨?_, hx⟩
  have e1 : modR a b = (a.tmod b, 0) := by unfold modR; rw [if_neg b0]
  rw [e1]
  by_cases h : b = -1
  · subst h
    have : a.tmod (-1) = 0 := by rw [Int.tmod_neg, Int.tmod_one]
    rw [this]; rfl
  · have hf : (b == -1) = false := by simpa using h
    rw [hf]; rfl

/-- what two numbers make, r what the reckoning came to -/
def opF (k i : Int) (s : ByteArray) (k' i' : Int) (s' : ByteArray) (r : Int × Int) : Val × Int :=
  if (mayB k i s && mayB k' i' s') = false then (⟨0, 0, ⟨#[]⟩⟩, 1) else if k ≠ 2 ∨ k' ≠ 2 then (⟨0, 0, ⟨#[]⟩⟩, 10) else if r.2 ≠ 0 then (⟨0, 0, ⟨#[]⟩⟩, r.2) else (⟨2, r.1, ⟨#[]⟩⟩, 0)

set_option maxHeartbeats 1000000 in
theorem add_core (k i : Int) (s : ByteArray) (k' i' : Int) (s' : ByteArray) (r : Int × Int) (Hc : ∀ w, Calls Tryd.prog 32 #[.int .i64 i, .int .i64 i'] w fun e w' => e = .returned (.tuple #[.int .i64 r.1, .int .i64 r.2]) ∧ Ext w w') (w : World) :
    Calls Tryd.prog 31 #[.agg #[.int .i64 k, .int .i64 i, .string s], .agg #[.int .i64 k', .int .i64 i', .string s'], .func (.func 32) #[] #[]] w fun e w' => e = .returned (resV (opF k i s k' i' s' r)) ∧ Ext w w' := by
  obtain ⟨rn, re⟩ := r
  dsimp only at Hc
  have Hc := Lib.hid Hc
  by_cases h1 : mayB k i s = true
  case neg =>
    have h1 : mayB k i s = false := by simpa using h1
    have hr : opF k i s k' i' s' (rn, re) = (⟨0, 0, ⟨#[]⟩⟩, 1) := by simp [opF, h1]
    rw [hr]; clear hr
    go_enter Tryd.func31, Tryd.ntmps31
    go_wp2_with (first
      | (go_at_call 15; refine (vmay_any _ _ _ _).mono ?_; rintro e _ ⟨rfl, d, os, rfl⟩)
      | (go_at_call 32; refine (Hc _).mono ?_; rintro e _ ⟨rfl, d, os, rfl⟩)
      | (go_at_call 18; refine (int_any _ _).mono ?_; rintro e _ ⟨rfl, d, os, rfl⟩))
    refine bodyPost_ret (v := .tuple #[.agg #[.int .i64 0, .int .i64 0, .string ⟨#[]⟩], .int .i64 1]) (by simp [results, Tryd.results31, go_sem]) rfl ⟨rfl, by repeat (first | exact Ext.refl _ | apply Ext.alloc | apply Ext.more)⟩
  by_cases h2 : mayB k' i' s' = true
  case neg =>
    have h2 : mayB k' i' s' = false := by simpa using h2
    have hr : opF k i s k' i' s' (rn, re) = (⟨0, 0, ⟨#[]⟩⟩, 1) := by simp [opF, h2]
    rw [hr]; clear hr
    go_enter Tryd.func31, Tryd.ntmps31
    go_wp2_with (first
      | (go_at_call 15; refine (vmay_any _ _ _ _).mono ?_; rintro e _ ⟨rfl, d, os, rfl⟩)
      | (go_at_call 32; refine (Hc _).mono ?_; rintro e _ ⟨rfl, d, os, rfl⟩)
      | (go_at_call 18; refine (int_any _ _).mono ?_; rintro e _ ⟨rfl, d, os, rfl⟩))
    refine bodyPost_ret (v := .tuple #[.agg #[.int .i64 0, .int .i64 0, .string ⟨#[]⟩], .int .i64 1]) (by simp [results, Tryd.results31, go_sem]) rfl ⟨rfl, by repeat (first | exact Ext.refl _ | apply Ext.alloc | apply Ext.more)⟩
  by_cases h3 : (k != 2) = true
  · have hr : opF k i s k' i' s' (rn, re) = (⟨0, 0, ⟨#[]⟩⟩, 10) := by simp at h3; simp [opF, h1, h2, h3]
    rw [hr]; clear hr
    go_enter Tryd.func31, Tryd.ntmps31
    go_wp2_with (first
      | (go_at_call 15; refine (vmay_any _ _ _ _).mono ?_; rintro e _ ⟨rfl, d, os, rfl⟩)
      | (go_at_call 32; refine (Hc _).mono ?_; rintro e _ ⟨rfl, d, os, rfl⟩)
      | (go_at_call 18; refine (int_any _ _).mono ?_; rintro e _ ⟨rfl, d, os, rfl⟩))
    refine bodyPost_ret (v := .tuple #[.agg #[.int .i64 0, .int .i64 0, .string ⟨#[]⟩], .int .i64 10]) (by simp [results, Tryd.results31, go_sem]) rfl ⟨rfl, by repeat (first | exact Ext.refl _ | apply Ext.alloc | apply Ext.more)⟩
  have h3 : (k != 2) = false := by simpa using h3
  by_cases h4 : (k' != 2) = true
  · have hr : opF k i s k' i' s' (rn, re) = (⟨0, 0, ⟨#[]⟩⟩, 10) := by simp at h4; simp [opF, h1, h2, h4]
    rw [hr]; clear hr
    go_enter Tryd.func31, Tryd.ntmps31
    go_wp2_with (first
      | (go_at_call 15; refine (vmay_any _ _ _ _).mono ?_; rintro e _ ⟨rfl, d, os, rfl⟩)
      | (go_at_call 32; refine (Hc _).mono ?_; rintro e _ ⟨rfl, d, os, rfl⟩)
      | (go_at_call 18; refine (int_any _ _).mono ?_; rintro e _ ⟨rfl, d, os, rfl⟩))
    refine bodyPost_ret (v := .tuple #[.agg #[.int .i64 0, .int .i64 0, .string ⟨#[]⟩], .int .i64 10]) (by simp [results, Tryd.results31, go_sem]) rfl ⟨rfl, by repeat (first | exact Ext.refl _ | apply Ext.alloc | apply Ext.more)⟩
  have h4 : (k' != 2) = false := by simpa using h4
  by_cases h5 : (re != 0) = true
  · have hr : opF k i s k' i' s' (rn, re) = (⟨0, 0, ⟨#[]⟩⟩, re) := by simp at h3 h4 h5; subst h3 h4; simp [opF, h1, h2, h5]
    rw [hr]; clear hr
    go_enter Tryd.func31, Tryd.ntmps31
    go_wp2_with (first
      | (go_at_call 15; refine (vmay_any _ _ _ _).mono ?_; rintro e _ ⟨rfl, d, os, rfl⟩)
      | (go_at_call 32; refine (Hc.out _).mono ?_; rintro e _ ⟨rfl, d, os, rfl⟩)
      | (go_at_call 18; refine (int_any _ _).mono ?_; rintro e _ ⟨rfl, d, os, rfl⟩))
    refine bodyPost_ret (v := .tuple #[.agg #[.int .i64 0, .int .i64 0, .string ⟨#[]⟩], .int .i64 re]) (by simp [results, Tryd.results31, go_sem]) rfl ⟨rfl, by repeat (first | exact Ext.refl _ | apply Ext.alloc | apply Ext.more)⟩
  · have h5 : (re != 0) = false := by simpa using h5
    have hr : opF k i s k' i' s' (rn, re) = (⟨2, rn, ⟨#[]⟩⟩, 0) := by simp at h3 h4 h5; subst h3 h4; simp [opF, h1, h2, h5]
    rw [hr]; clear hr
    go_enter Tryd.func31, Tryd.ntmps31
    go_wp2_with (first
      | (go_at_call 15; refine (vmay_any _ _ _ _).mono ?_; rintro e _ ⟨rfl, d, os, rfl⟩)
      | (go_at_call 32; refine (Hc.out _).mono ?_; rintro e _ ⟨rfl, d, os, rfl⟩)
      | (go_at_call 18; refine (int_any _ _).mono ?_; rintro e _ ⟨rfl, d, os, rfl⟩))
    refine bodyPost_ret (v := .tuple #[.agg #[.int .i64 2, .int .i64 rn, .string ⟨#[]⟩], .int .i64 0]) (by simp [results, Tryd.results31, go_sem]) rfl ⟨rfl, by repeat (first | exact Ext.refl _ | apply Ext.alloc | apply Ext.more)⟩

set_option maxHeartbeats 400000 in
theorem add_out (k i : Int) (s : ByteArray) (k' i' : Int) (s' : ByteArray) (ha : In64 i) (hb : In64 i') (w : World) :
    Calls Tryd.prog 22 #[.agg #[.int .i64 k, .int .i64 i, .string s], .agg #[.int .i64 k', .int .i64 i', .string s']] w fun e w' => e = .returned (resV (opF k i s k' i' s' (numR (i + i')))) ∧ Ext w w' := by
  obtain ⟨v, n, h⟩ : ∃ v n, opF k i s k' i' s' (numR (i + i')) = (v, n) := ⟨_, _, rfl⟩
  have hc := fun w => add_core k i s k' i' s' (numR (i + i')) (fun w => addc_any i i' ha hb w) w
  rw [h] at hc ⊢
  clear h ha hb
  have hc := Lib.hid hc
  unfold resV at *
  dsimp only at *
  go_enter Tryd.func22, Tryd.ntmps22
  go_wp2_with (go_at_call 31; refine (hc.out _).mono ?_; rintro e _ ⟨rfl, d, os, rfl⟩)
  refine bodyPost_ret (v := .tuple #[.agg #[.int .i64 v.k, .int .i64 v.i, .string v.s], .int .i64 n]) (by simp [results, Tryd.results22, go_sem]) rfl ⟨rfl, by repeat (first | exact Ext.refl _ | apply Ext.alloc | apply Ext.more)⟩

theorem add_any (k i : Int) (s : ByteArray) (k' i' : Int) (s' : ByteArray) (ha : In64 i) (hb : In64 i') (v : Val) (n : Int) (h : opF k i s k' i' s' (numR (i + i')) = (v, n)) (w : World) :
    Calls Tryd.prog 22 #[.agg #[.int .i64 k, .int .i64 i, .string s], .agg #[.int .i64 k', .int .i64 i', .string s']] w fun e w' => e = .returned (.tuple #[.agg #[.int .i64 v.k, .int .i64 v.i, .string v.s], .int .i64 n]) ∧ Ext w w' := by
  have := add_out k i s k' i' s' ha hb w
  rw [h] at this
  exact this

set_option maxHeartbeats 1000000 in
theorem div_core (k i : Int) (s : ByteArray) (k' i' : Int) (s' : ByteArray) (r : Int × Int) (Hc : ∀ w, Calls Tryd.prog 33 #[.int .i64 i, .int .i64 i'] w fun e w' => e = .returned (.tuple #[.int .i64 r.1, .int .i64 r.2]) ∧ Ext w w') (w : World) :
    Calls Tryd.prog 31 #[.agg #[.int .i64 k, .int .i64 i, .string s], .agg #[.int .i64 k', .int .i64 i', .string s'], .func (.func 33) #[] #[]] w fun e w' => e = .returned (resV (opF k i s k' i' s' r)) ∧ Ext w w' := by
  obtain ⟨rn, re⟩ := r
  dsimp only at Hc
  have Hc := Lib.hid Hc
  by_cases h1 : mayB k i s = true
  case neg =>
    have h1 : mayB k i s = false := by simpa using h1
    have hr : opF k i s k' i' s' (rn, re) = (⟨0, 0, ⟨#[]⟩⟩, 1) := by simp [opF, h1]
    rw [hr]; clear hr
    go_enter Tryd.func31, Tryd.ntmps31
    go_wp2_with (first
      | (go_at_call 15; refine (vmay_any _ _ _ _).mono ?_; rintro e _ ⟨rfl, d, os, rfl⟩)
      | (go_at_call 33; refine (Hc _).mono ?_; rintro e _ ⟨rfl, d, os, rfl⟩)
      | (go_at_call 18; refine (int_any _ _).mono ?_; rintro e _ ⟨rfl, d, os, rfl⟩))
    refine bodyPost_ret (v := .tuple #[.agg #[.int .i64 0, .int .i64 0, .string ⟨#[]⟩], .int .i64 1]) (by simp [results, Tryd.results31, go_sem]) rfl ⟨rfl, by repeat (first | exact Ext.refl _ | apply Ext.alloc | apply Ext.more)⟩
  by_cases h2 : mayB k' i' s' = true
  case neg =>
    have h2 : mayB k' i' s' = false := by simpa using h2
    have hr : opF k i s k' i' s' (rn, re) = (⟨0, 0, ⟨#[]⟩⟩, 1) := by simp [opF, h2]
    rw [hr]; clear hr
    go_enter Tryd.func31, Tryd.ntmps31
    go_wp2_with (first
      | (go_at_call 15; refine (vmay_any _ _ _ _).mono ?_; rintro e _ ⟨rfl, d, os, rfl⟩)
      | (go_at_call 33; refine (Hc _).mono ?_; rintro e _ ⟨rfl, d, os, rfl⟩)
      | (go_at_call 18; refine (int_any _ _).mono ?_; rintro e _ ⟨rfl, d, os, rfl⟩))
    refine bodyPost_ret (v := .tuple #[.agg #[.int .i64 0, .int .i64 0, .string ⟨#[]⟩], .int .i64 1]) (by simp [results, Tryd.results31, go_sem]) rfl ⟨rfl, by repeat (first | exact Ext.refl _ | apply Ext.alloc | apply Ext.more)⟩
  by_cases h3 : (k != 2) = true
  · have hr : opF k i s k' i' s' (rn, re) = (⟨0, 0, ⟨#[]⟩⟩, 10) := by simp at h3; simp [opF, h1, h2, h3]
    rw [hr]; clear hr
    go_enter Tryd.func31, Tryd.ntmps31
    go_wp2_with (first
      | (go_at_call 15; refine (vmay_any _ _ _ _).mono ?_; rintro e _ ⟨rfl, d, os, rfl⟩)
      | (go_at_call 33; refine (Hc _).mono ?_; rintro e _ ⟨rfl, d, os, rfl⟩)
      | (go_at_call 18; refine (int_any _ _).mono ?_; rintro e _ ⟨rfl, d, os, rfl⟩))
    refine bodyPost_ret (v := .tuple #[.agg #[.int .i64 0, .int .i64 0, .string ⟨#[]⟩], .int .i64 10]) (by simp [results, Tryd.results31, go_sem]) rfl ⟨rfl, by repeat (first | exact Ext.refl _ | apply Ext.alloc | apply Ext.more)⟩
  have h3 : (k != 2) = false := by simpa using h3
  by_cases h4 : (k' != 2) = true
  · have hr : opF k i s k' i' s' (rn, re) = (⟨0, 0, ⟨#[]⟩⟩, 10) := by simp at h4; simp [opF, h1, h2, h4]
    rw [hr]; clear hr
    go_enter Tryd.func31, Tryd.ntmps31
    go_wp2_with (first
      | (go_at_call 15; refine (vmay_any _ _ _ _).mono ?_; rintro e _ ⟨rfl, d, os, rfl⟩)
      | (go_at_call 33; refine (Hc _).mono ?_; rintro e _ ⟨rfl, d, os, rfl⟩)
      | (go_at_call 18; refine (int_any _ _).mono ?_; rintro e _ ⟨rfl, d, os, rfl⟩))
    refine bodyPost_ret (v := .tuple #[.agg #[.int .i64 0, .int .i64 0, .string ⟨#[]⟩], .int .i64 10]) (by simp [results, Tryd.results31, go_sem]) rfl ⟨rfl, by repeat (first | exact Ext.refl _ | apply Ext.alloc | apply Ext.more)⟩
  have h4 : (k' != 2) = false := by simpa using h4
  by_cases h5 : (re != 0) = true
  · have hr : opF k i s k' i' s' (rn, re) = (⟨0, 0, ⟨#[]⟩⟩, re) := by simp at h3 h4 h5; subst h3 h4; simp [opF, h1, h2, h5]
    rw [hr]; clear hr
    go_enter Tryd.func31, Tryd.ntmps31
    go_wp2_with (first
      | (go_at_call 15; refine (vmay_any _ _ _ _).mono ?_; rintro e _ ⟨rfl, d, os, rfl⟩)
      | (go_at_call 33; refine (Hc.out _).mono ?_; rintro e _ ⟨rfl, d, os, rfl⟩)
      | (go_at_call 18; refine (int_any _ _).mono ?_; rintro e _ ⟨rfl, d, os, rfl⟩))
    refine bodyPost_ret (v := .tuple #[.agg #[.int .i64 0, .int .i64 0, .string ⟨#[]⟩], .int .i64 re]) (by simp [results, Tryd.results31, go_sem]) rfl ⟨rfl, by repeat (first | exact Ext.refl _ | apply Ext.alloc | apply Ext.more)⟩
  · have h5 : (re != 0) = false := by simpa using h5
    have hr : opF k i s k' i' s' (rn, re) = (⟨2, rn, ⟨#[]⟩⟩, 0) := by simp at h3 h4 h5; subst h3 h4; simp [opF, h1, h2, h5]
    rw [hr]; clear hr
    go_enter Tryd.func31, Tryd.ntmps31
    go_wp2_with (first
      | (go_at_call 15; refine (vmay_any _ _ _ _).mono ?_; rintro e _ ⟨rfl, d, os, rfl⟩)
      | (go_at_call 33; refine (Hc.out _).mono ?_; rintro e _ ⟨rfl, d, os, rfl⟩)
      | (go_at_call 18; refine (int_any _ _).mono ?_; rintro e _ ⟨rfl, d, os, rfl⟩))
    refine bodyPost_ret (v := .tuple #[.agg #[.int .i64 2, .int .i64 rn, .string ⟨#[]⟩], .int .i64 0]) (by simp [results, Tryd.results31, go_sem]) rfl ⟨rfl, by repeat (first | exact Ext.refl _ | apply Ext.alloc | apply Ext.more)⟩

set_option maxHeartbeats 400000 in
theorem div_out (k i : Int) (s : ByteArray) (k' i' : Int) (s' : ByteArray) (ha : In64 i) (hb : In64 i') (w : World) :
    Calls Tryd.prog 23 #[.agg #[.int .i64 k, .int .i64 i, .string s], .agg #[.int .i64 k', .int .i64 i', .string s']] w fun e w' => e = .returned (resV (opF k i s k' i' s' (divR i i'))) ∧ Ext w w' := by
  obtain ⟨v, n, h⟩ : ∃ v n, opF k i s k' i' s' (divR i i') = (v, n) := ⟨_, _, rfl⟩
  have hc := fun w => div_core k i s k' i' s' (divR i i') (fun w => divc_any i i' ha hb w) w
  rw [h] at hc ⊢
  clear h ha hb
  have hc := Lib.hid hc
  unfold resV at *
  dsimp only at *
  go_enter Tryd.func23, Tryd.ntmps23
  go_wp2_with (go_at_call 31; refine (hc.out _).mono ?_; rintro e _ ⟨rfl, d, os, rfl⟩)
  refine bodyPost_ret (v := .tuple #[.agg #[.int .i64 v.k, .int .i64 v.i, .string v.s], .int .i64 n]) (by simp [results, Tryd.results23, go_sem]) rfl ⟨rfl, by repeat (first | exact Ext.refl _ | apply Ext.alloc | apply Ext.more)⟩

theorem div_any (k i : Int) (s : ByteArray) (k' i' : Int) (s' : ByteArray) (ha : In64 i) (hb : In64 i') (v : Val) (n : Int) (h : opF k i s k' i' s' (divR i i') = (v, n)) (w : World) :
    Calls Tryd.prog 23 #[.agg #[.int .i64 k, .int .i64 i, .string s], .agg #[.int .i64 k', .int .i64 i', .string s']] w fun e w' => e = .returned (.tuple #[.agg #[.int .i64 v.k, .int .i64 v.i, .string v.s], .int .i64 n]) ∧ Ext w w' := by
  have := div_out k i s k' i' s' ha hb w
  rw [h] at this
  exact this

set_option maxHeartbeats 1000000 in
theorem mod_core (k i : Int) (s : ByteArray) (k' i' : Int) (s' : ByteArray) (r : Int × Int) (Hc : ∀ w, Calls Tryd.prog 34 #[.int .i64 i, .int .i64 i'] w fun e w' => e = .returned (.tuple #[.int .i64 r.1, .int .i64 r.2]) ∧ Ext w w') (w : World) :
    Calls Tryd.prog 31 #[.agg #[.int .i64 k, .int .i64 i, .string s], .agg #[.int .i64 k', .int .i64 i', .string s'], .func (.func 34) #[] #[]] w fun e w' => e = .returned (resV (opF k i s k' i' s' r)) ∧ Ext w w' := by
  obtain ⟨rn, re⟩ := r
  dsimp only at Hc
  have Hc := Lib.hid Hc
  by_cases h1 : mayB k i s = true
  case neg =>
    have h1 : mayB k i s = false := by simpa using h1
    have hr : opF k i s k' i' s' (rn, re) = (⟨0, 0, ⟨#[]⟩⟩, 1) := by simp [opF, h1]
    rw [hr]; clear hr
    go_enter Tryd.func31, Tryd.ntmps31
    go_wp2_with (first
      | (go_at_call 15; refine (vmay_any _ _ _ _).mono ?_; rintro e _ ⟨rfl, d, os, rfl⟩)
      | (go_at_call 34; refine (Hc _).mono ?_; rintro e _ ⟨rfl, d, os, rfl⟩)
      | (go_at_call 18; refine (int_any _ _).mono ?_; rintro e _ ⟨rfl, d, os, rfl⟩))
    refine bodyPost_ret (v := .tuple #[.agg #[.int .i64 0, .int .i64 0, .string ⟨#[]⟩], .int .i64 1]) (by simp [results, Tryd.results31, go_sem]) rfl ⟨rfl, by repeat (first | exact Ext.refl _ | apply Ext.alloc | apply Ext.more)⟩
  by_cases h2 : mayB k' i' s' = true
  case neg =>
    have h2 : mayB k' i' s' = false := by simpa using h2
    have hr : opF k i s k' i' s' (rn, re) = (⟨0, 0, ⟨#[]⟩⟩, 1) := by simp [opF, h2]
    rw [hr]; clear hr
    go_enter Tryd.func31, Tryd.ntmps31
    go_wp2_with (first
      | (go_at_call 15; refine (vmay_any _ _ _ _).mono ?_; rintro e _ ⟨rfl, d, os, rfl⟩)
      | (go_at_call 34; refine (Hc _).mono ?_; rintro e _ ⟨rfl, d, os, rfl⟩)
      | (go_at_call 18; refine (int_any _ _).mono ?_; rintro e _ ⟨rfl, d, os, rfl⟩))
    refine bodyPost_ret (v := .tuple #[.agg #[.int .i64 0, .int .i64 0, .string ⟨#[]⟩], .int .i64 1]) (by simp [results, Tryd.results31, go_sem]) rfl ⟨rfl, by repeat (first | exact Ext.refl _ | apply Ext.alloc | apply Ext.more)⟩
  by_cases h3 : (k != 2) = true
  · have hr : opF k i s k' i' s' (rn, re) = (⟨0, 0, ⟨#[]⟩⟩, 10) := by simp at h3; simp [opF, h1, h2, h3]
    rw [hr]; clear hr
    go_enter Tryd.func31, Tryd.ntmps31
    go_wp2_with (first
      | (go_at_call 15; refine (vmay_any _ _ _ _).mono ?_; rintro e _ ⟨rfl, d, os, rfl⟩)
      | (go_at_call 34; refine (Hc _).mono ?_; rintro e _ ⟨rfl, d, os, rfl⟩)
      | (go_at_call 18; refine (int_any _ _).mono ?_; rintro e _ ⟨rfl, d, os, rfl⟩))
    refine bodyPost_ret (v := .tuple #[.agg #[.int .i64 0, .int .i64 0, .string ⟨#[]⟩], .int .i64 10]) (by simp [results, Tryd.results31, go_sem]) rfl ⟨rfl, by repeat (first | exact Ext.refl _ | apply Ext.alloc | apply Ext.more)⟩
  have h3 : (k != 2) = false := by simpa using h3
  by_cases h4 : (k' != 2) = true
  · have hr : opF k i s k' i' s' (rn, re) = (⟨0, 0, ⟨#[]⟩⟩, 10) := by simp at h4; simp [opF, h1, h2, h4]
    rw [hr]; clear hr
    go_enter Tryd.func31, Tryd.ntmps31
    go_wp2_with (first
      | (go_at_call 15; refine (vmay_any _ _ _ _).mono ?_; rintro e _ ⟨rfl, d, os, rfl⟩)
      | (go_at_call 34; refine (Hc _).mono ?_; rintro e _ ⟨rfl, d, os, rfl⟩)
      | (go_at_call 18; refine (int_any _ _).mono ?_; rintro e _ ⟨rfl, d, os, rfl⟩))
    refine bodyPost_ret (v := .tuple #[.agg #[.int .i64 0, .int .i64 0, .string ⟨#[]⟩], .int .i64 10]) (by simp [results, Tryd.results31, go_sem]) rfl ⟨rfl, by repeat (first | exact Ext.refl _ | apply Ext.alloc | apply Ext.more)⟩
  have h4 : (k' != 2) = false := by simpa using h4
  by_cases h5 : (re != 0) = true
  · have hr : opF k i s k' i' s' (rn, re) = (⟨0, 0, ⟨#[]⟩⟩, re) := by simp at h3 h4 h5; subst h3 h4; simp [opF, h1, h2, h5]
    rw [hr]; clear hr
    go_enter Tryd.func31, Tryd.ntmps31
    go_wp2_with (first
      | (go_at_call 15; refine (vmay_any _ _ _ _).mono ?_; rintro e _ ⟨rfl, d, os, rfl⟩)
      | (go_at_call 34; refine (Hc.out _).mono ?_; rintro e _ ⟨rfl, d, os, rfl⟩)
      | (go_at_call 18; refine (int_any _ _).mono ?_; rintro e _ ⟨rfl, d, os, rfl⟩))
    refine bodyPost_ret (v := .tuple #[.agg #[.int .i64 0, .int .i64 0, .string ⟨#[]⟩], .int .i64 re]) (by simp [results, Tryd.results31, go_sem]) rfl ⟨rfl, by repeat (first | exact Ext.refl _ | apply Ext.alloc | apply Ext.more)⟩
  · have h5 : (re != 0) = false := by simpa using h5
    have hr : opF k i s k' i' s' (rn, re) = (⟨2, rn, ⟨#[]⟩⟩, 0) := by simp at h3 h4 h5; subst h3 h4; simp [opF, h1, h2, h5]
    rw [hr]; clear hr
    go_enter Tryd.func31, Tryd.ntmps31
    go_wp2_with (first
      | (go_at_call 15; refine (vmay_any _ _ _ _).mono ?_; rintro e _ ⟨rfl, d, os, rfl⟩)
      | (go_at_call 34; refine (Hc.out _).mono ?_; rintro e _ ⟨rfl, d, os, rfl⟩)
      | (go_at_call 18; refine (int_any _ _).mono ?_; rintro e _ ⟨rfl, d, os, rfl⟩))
    refine bodyPost_ret (v := .tuple #[.agg #[.int .i64 2, .int .i64 rn, .string ⟨#[]⟩], .int .i64 0]) (by simp [results, Tryd.results31, go_sem]) rfl ⟨rfl, by repeat (first | exact Ext.refl _ | apply Ext.alloc | apply Ext.more)⟩

set_option maxHeartbeats 400000 in
theorem mod_out (k i : Int) (s : ByteArray) (k' i' : Int) (s' : ByteArray) (ha : In64 i) (hb : In64 i') (w : World) :
    Calls Tryd.prog 24 #[.agg #[.int .i64 k, .int .i64 i, .string s], .agg #[.int .i64 k', .int .i64 i', .string s']] w fun e w' => e = .returned (resV (opF k i s k' i' s' (modR i i'))) ∧ Ext w w' := by
  obtain ⟨v, n, h⟩ : ∃ v n, opF k i s k' i' s' (modR i i') = (v, n) := ⟨_, _, rfl⟩
  have hc := fun w => mod_core k i s k' i' s' (modR i i') (fun w => modc_any i i' ha hb w) w
  rw [h] at hc ⊢
  clear h ha hb
  have hc := Lib.hid hc
  unfold resV at *
  dsimp only at *
  go_enter Tryd.func24, Tryd.ntmps24
  go_wp2_with (go_at_call 31; refine (hc.out _).mono ?_; rintro e _ ⟨rfl, d, os, rfl⟩)
  refine bodyPost_ret (v := .tuple #[.agg #[.int .i64 v.k, .int .i64 v.i, .string v.s], .int .i64 n]) (by simp [results, Tryd.results24, go_sem]) rfl ⟨rfl, by repeat (first | exact Ext.refl _ | apply Ext.alloc | apply Ext.more)⟩

theorem mod_any (k i : Int) (s : ByteArray) (k' i' : Int) (s' : ByteArray) (ha : In64 i) (hb : In64 i') (v : Val) (n : Int) (h : opF k i s k' i' s' (modR i i') = (v, n)) (w : World) :
    Calls Tryd.prog 24 #[.agg #[.int .i64 k, .int .i64 i, .string s], .agg #[.int .i64 k', .int .i64 i', .string s']] w fun e w' => e = .returned (.tuple #[.agg #[.int .i64 v.k, .int .i64 v.i, .string v.s], .int .i64 n]) ∧ Ext w w' := by
  have := mod_out k i s k' i' s' ha hb w
  rw [h] at this
  exact this

end Go.Proofs.YtoaaklcbcbjaiaaDoor
