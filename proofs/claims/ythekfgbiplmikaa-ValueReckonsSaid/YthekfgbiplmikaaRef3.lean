/- The contract of the reference's Two: sum, difference, product, quotient and what is left. -/
import Derived.Test.YthekfgbiplmikaaRef2
import Derived.Test.YthekfgbiplmikaaGrow
set_option linter.unusedSimpArgs false
set_option linter.unusedVariables false
namespace Go.Proofs.Ythekfgbiplmikaa
open Go.RowKit

theorem ret_of {P : Program} {f : FuncId} {args : Array Value} {v : Value} {w0 : World} (h : ∀ w, Calls P f args w fun e w' => e = .returned v ∧ Ext w w') :
    ∀ d os, Calls P f args (more w0 d os) (RetG (more w0 d os) fun x _ => x = v) := fun d os => (h _).mono fun e w' ⟨he, hx⟩ => ⟨v, he, hx, rfl⟩

/-- what a number's answer z, ok says of the number r -/
def Says (z : Int) (ok : Bool) (r : Int) : Prop := (ok = true → In64 r ∧ z = r) ∧ (ok = false → ¬ In64 r)
theorem says_mk {z r : Int} (h : In64 r → z = r) : Says z (decide (In64 r)) r := by
  unfold Says
  by_cases c : In64 r
  · simp [c, h c]
  · simp [c]

theorem sum_says (a b : Int) (ha : In64 a) (hb : In64 b) (w : World) :
    Calls Try.prog 43 #[.int .i64 a, .int .i64 b] w fun e w' => ∃ z ok, e = .returned (.tuple #[.int .i64 z, .bool ok]) ∧ Says z ok (a + b) ∧ Ext w w' :=
  (sum_any a b ha hb w).mono fun e w' ⟨he, hx⟩ => ⟨_, _, he, says_mk fun h => by simp [numR, h], hx⟩

theorem rless_says (a b : Int) (ha : In64 a) (hb : In64 b) (w : World) :
    Calls Try.prog 44 #[.int .i64 a, .int .i64 b] w fun e w' => ∃ z ok, e = .returned (.tuple #[.int .i64 z, .bool ok]) ∧ Says z ok (a - b) ∧ Ext w w' :=
  (rless_any a b ha hb w).mono fun e w' ⟨he, hx⟩ => ⟨_, _, he, says_mk fun h => by simp [numR, h], hx⟩

theorem product_says (a b : Int) (ha : In64 a) (hb : In64 b) (w : World) :
    Calls Try.prog 45 #[.int .i64 a, .int .i64 b] w fun e w' => ∃ z ok, e = .returned (.tuple #[.int .i64 z, .bool ok]) ∧ Says z ok (a * b) ∧ Ext w w' :=
  (product_any a b ha hb w).mono fun e w' ⟨z, he, hz, hx⟩ => ⟨_, _, he, says_mk hz, hx⟩

theorem signed_says (n : Int) (neg : Bool) (hn : 0 ≤ n ∧ n ≤ 9223372036854775808) (w : World) :
    Calls Try.prog 47 #[.int .u64 n, .bool neg] w fun e w' => ∃ z ok, e = .returned (.tuple #[.int .i64 z, .bool ok]) ∧ Says z ok (if neg = true then -n else n) ∧ Ext w w' :=
  (signed_any n neg hn w).mono fun e w' ⟨z, he, hz, hx⟩ => ⟨_, _, he, says_mk hz, hx⟩

set_option maxHeartbeats 1000000 in
theorem two_m1 (op k i : Int) (s : ByteArray) (k' i' : Int) (s' : ByteArray) (h1 : mayB k i s = false) (w : World) :
    Calls Try.prog 30 #[.int .i64 op, .agg #[.int .i64 k, .int .i64 i, .string s], .agg #[.int .i64 k', .int .i64 i', .string s']] w fun e w' => e = .returned (.tuple #[.agg #[.int .i64 0, .int .i64 0, .string ⟨#[]⟩], .int .i64 1]) ∧ Ext w w' := by
  have m1 := fun w => rmay_any k i s w
  rw [h1] at m1
  have M1 := Lib.hid m1
  clear m1
  go_enter Try.func30, Try.ntmps30
  go_wp2_with (go_at_call 15; (with_reducible refine (M1.out _).mono ?_); rintro e _ ⟨rfl, d, os, rfl⟩)
  refine bodyPost_ret (v := .tuple #[.agg #[.int .i64 0, .int .i64 0, .string ⟨#[]⟩], .int .i64 1]) (by simp [results, Try.results30, go_sem]) rfl ⟨rfl, by repeat (first | exact Ext.refl _ | apply Ext.alloc | apply Ext.more)⟩

set_option maxHeartbeats 1000000 in
theorem two_m2 (op k i : Int) (s : ByteArray) (k' i' : Int) (s' : ByteArray) (h1 : mayB k i s = true) (h2 : mayB k' i' s' = false) (w : World) :
    Calls Try.prog 30 #[.int .i64 op, .agg #[.int .i64 k, .int .i64 i, .string s], .agg #[.int .i64 k', .int .i64 i', .string s']] w fun e w' => e = .returned (.tuple #[.agg #[.int .i64 0, .int .i64 0, .string ⟨#[]⟩], .int .i64 1]) ∧ Ext w w' := by
  have m1 := fun w => rmay_any k i s w
  have m2 := fun w => rmay_any k' i' s' w
  rw [h1] at m1
  rw [h2] at m2
  have M1 := Lib.hid m1
  have M2 := Lib.hid m2
  clear m1 m2
  go_enter Try.func30, Try.ntmps30
  go_wp2_with (go_at_call 15; (first | with_reducible refine (M1.out _).mono ?_ | with_reducible refine (M2.out _).mono ?_); rintro e _ ⟨rfl, d, os, rfl⟩)
  refine bodyPost_ret (v := .tuple #[.agg #[.int .i64 0, .int .i64 0, .string ⟨#[]⟩], .int .i64 1]) (by simp [results, Try.results30, go_sem]) rfl ⟨rfl, by repeat (first | exact Ext.refl _ | apply Ext.alloc | apply Ext.more)⟩

set_option maxHeartbeats 1000000 in
theorem two_k (op k i : Int) (s : ByteArray) (k' i' : Int) (s' : ByteArray) (h1 : mayB k i s = true) (h2 : mayB k' i' s' = true) (h3 : (k != 2) = true ∨ ((k != 2) = false ∧ (k' != 2) = true)) (w : World) :
    Calls Try.prog 30 #[.int .i64 op, .agg #[.int .i64 k, .int .i64 i, .string s], .agg #[.int .i64 k', .int .i64 i', .string s']] w fun e w' => e = .returned (.tuple #[.agg #[.int .i64 0, .int .i64 0, .string ⟨#[]⟩], .int .i64 10]) ∧ Ext w w' := by
  have m1 := fun w => rmay_any k i s w
  have m2 := fun w => rmay_any k' i' s' w
  rw [h1] at m1
  rw [h2] at m2
  have M1 := Lib.hid m1
  have M2 := Lib.hid m2
  clear m1 m2
  rcases h3 with h3 | ⟨h3, h4⟩
  all_goals
    go_enter Try.func30, Try.ntmps30
    go_wp2_with (go_at_call 15; (first | with_reducible refine (M1.out _).mono ?_ | with_reducible refine (M2.out _).mono ?_); rintro e _ ⟨rfl, d, os, rfl⟩)
    refine bodyPost_ret (v := .tuple #[.agg #[.int .i64 0, .int .i64 0, .string ⟨#[]⟩], .int .i64 10]) (by simp [results, Try.results30, go_sem]) rfl ⟨rfl, by repeat (first | exact Ext.refl _ | apply Ext.alloc | apply Ext.more)⟩

/-- the answer of two numbers -/
def resN (r : Int × Int) : Val × Int := if r.2 ≠ 0 then (⟨0, 0, ⟨#[]⟩⟩, r.2) else (⟨2, r.1, ⟨#[]⟩⟩, 0)

set_option maxHeartbeats 1000000 in
theorem two_op0 (i : Int) (s : ByteArray) (i' : Int) (s' : ByteArray) (hi : In64 i) (hi' : In64 i') (h1 : mayB 2 i s = true) (h2 : mayB 2 i' s' = true) (w : World) :
    Calls Try.prog 30 #[.int .i64 0, .agg #[.int .i64 2, .int .i64 i, .string s], .agg #[.int .i64 2, .int .i64 i', .string s']] w fun e w' => e = .returned (resV (resN (numR (i + i')))) ∧ Ext w w' := by
  have m1 := fun w => rmay_any 2 i s w
  have m2 := fun w => rmay_any 2 i' s' w
  rw [h1] at m1
  rw [h2] at m2
  have M1 := Lib.hid m1
  have M2 := Lib.hid m2
  have H := Lib.hid (sum_says i i' hi hi')
  obtain ⟨r, hr⟩ : ∃ r, i + i' = r := ⟨_, rfl⟩
  rw [hr] at H ⊢
  clear m1 m2 h1 h2 hi hi' hr
  go_enter Try.func30, Try.ntmps30
  go_wp2_with (first
    | (go_at_call 15; (first | with_reducible refine (M1.out _).mono ?_ | with_reducible refine (M2.out _).mono ?_); rintro e _ ⟨rfl, d, os, rfl⟩)
    | (go_at_call 43; refine (H.out _).mono ?_; rintro e _ ⟨z, ok, rfl, hz, d, os, rfl⟩; have hz := Lib.hid hz)
    | (go_at_call 21; refine (rint_any _ _).mono ?_; rintro e _ ⟨rfl, d, os, rfl⟩))
  all_goals
    rename_i hok
    first
      | (have hok' : ok = false := by simpa using hok
         have e1 := (hz.out.2 hok')
         have e2 : resN (numR r) = (⟨0, 0, ⟨#[]⟩⟩, 8) := by simp [resN, numR, e1]
         rw [e2]
         refine bodyPost_ret (v := .tuple #[.agg #[.int .i64 0, .int .i64 0, .string ⟨#[]⟩], .int .i64 8]) (by simp [results, Try.results30, go_sem]) rfl ⟨rfl, by repeat (first | exact Ext.refl _ | apply Ext.alloc | apply Ext.more)⟩)
      | (have hok' : ok = true := by simpa using hok
         have e1 := (hz.out.1 hok')
         have e2 : resN (numR r) = (⟨2, z, ⟨#[]⟩⟩, 0) := by simp [resN, numR, e1]
         rw [e2]
         refine bodyPost_ret (v := .tuple #[.agg #[.int .i64 2, .int .i64 z, .string ⟨#[]⟩], .int .i64 0]) (by simp [results, Try.results30, go_sem]) rfl ⟨rfl, by repeat (first | exact Ext.refl _ | apply Ext.alloc | apply Ext.more)⟩)

set_option maxHeartbeats 1000000 in
theorem two_op1 (i : Int) (s : ByteArray) (i' : Int) (s' : ByteArray) (hi : In64 i) (hi' : In64 i') (h1 : mayB 2 i s = true) (h2 : mayB 2 i' s' = true) (w : World) :
    Calls Try.prog 30 #[.int .i64 1, .agg #[.int .i64 2, .int .i64 i, .string s], .agg #[.int .i64 2, .int .i64 i', .string s']] w fun e w' => e = .returned (resV (resN (numR (i - i')))) ∧ Ext w w' := by
  have m1 := fun w => rmay_any 2 i s w
  have m2 := fun w => rmay_any 2 i' s' w
  rw [h1] at m1
  rw [h2] at m2
  have M1 := Lib.hid m1
  have M2 := Lib.hid m2
  have H := Lib.hid (rless_says i i' hi hi')
  obtain ⟨r, hr⟩ : ∃ r, i - i' = r := ⟨_, rfl⟩
  rw [hr] at H ⊢
  clear m1 m2 h1 h2 hi hi' hr
  go_enter Try.func30, Try.ntmps30
  go_wp2_with (first
    | (go_at_call 15; (first | with_reducible refine (M1.out _).mono ?_ | with_reducible refine (M2.out _).mono ?_); rintro e _ ⟨rfl, d, os, rfl⟩)
    | (go_at_call 44; refine (H.out _).mono ?_; rintro e _ ⟨z, ok, rfl, hz, d, os, rfl⟩; have hz := Lib.hid hz)
    | (go_at_call 21; refine (rint_any _ _).mono ?_; rintro e _ ⟨rfl, d, os, rfl⟩))
  all_goals
    rename_i hok
    first
      | (have hok' : ok = false := by simpa using hok
         have e1 := (hz.out.2 hok')
         have e2 : resN (numR r) = (⟨0, 0, ⟨#[]⟩⟩, 8) := by simp [resN, numR, e1]
         rw [e2]
         refine bodyPost_ret (v := .tuple #[.agg #[.int .i64 0, .int .i64 0, .string ⟨#[]⟩], .int .i64 8]) (by simp [results, Try.results30, go_sem]) rfl ⟨rfl, by repeat (first | exact Ext.refl _ | apply Ext.alloc | apply Ext.more)⟩)
      | (have hok' : ok = true := by simpa using hok
         have e1 := (hz.out.1 hok')
         have e2 : resN (numR r) = (⟨2, z, ⟨#[]⟩⟩, 0) := by simp [resN, numR, e1]
         rw [e2]
         refine bodyPost_ret (v := .tuple #[.agg #[.int .i64 2, .int .i64 z, .string ⟨#[]⟩], .int .i64 0]) (by simp [results, Try.results30, go_sem]) rfl ⟨rfl, by repeat (first | exact Ext.refl _ | apply Ext.alloc | apply Ext.more)⟩)

set_option maxHeartbeats 1000000 in
theorem two_op2 (i : Int) (s : ByteArray) (i' : Int) (s' : ByteArray) (hi : In64 i) (hi' : In64 i') (h1 : mayB 2 i s = true) (h2 : mayB 2 i' s' = true) (w : World) :
    Calls Try.prog 30 #[.int .i64 2, .agg #[.int .i64 2, .int .i64 i, .string s], .agg #[.int .i64 2, .int .i64 i', .string s']] w fun e w' => e = .returned (resV (resN (numR (i * i')))) ∧ Ext w w' := by
  have m1 := fun w => rmay_any 2 i s w
  have m2 := fun w => rmay_any 2 i' s' w
  rw [h1] at m1
  rw [h2] at m2
  have M1 := Lib.hid m1
  have M2 := Lib.hid m2
  have H := Lib.hid (product_says i i' hi hi')
  obtain ⟨r, hr⟩ : ∃ r, i * i' = r := ⟨_, rfl⟩
  rw [hr] at H ⊢
  clear m1 m2 h1 h2 hi hi' hr
  go_enter Try.func30, Try.ntmps30
  go_wp2_with (first
    | (go_at_call 15; (first | with_reducible refine (M1.out _).mono ?_ | with_reducible refine (M2.out _).mono ?_); rintro e _ ⟨rfl, d, os, rfl⟩)
    | (go_at_call 45; refine (H.out _).mono ?_; rintro e _ ⟨z, ok, rfl, hz, d, os, rfl⟩; have hz := Lib.hid hz)
    | (go_at_call 21; refine (rint_any _ _).mono ?_; rintro e _ ⟨rfl, d, os, rfl⟩))
  all_goals
    rename_i hok
    first
      | (have hok' : ok = false := by simpa using hok
         have e1 := (hz.out.2 hok')
         have e2 : resN (numR r) = (⟨0, 0, ⟨#[]⟩⟩, 8) := by simp [resN, numR, e1]
         rw [e2]
         refine bodyPost_ret (v := .tuple #[.agg #[.int .i64 0, .int .i64 0, .string ⟨#[]⟩], .int .i64 8]) (by simp [results, Try.results30, go_sem]) rfl ⟨rfl, by repeat (first | exact Ext.refl _ | apply Ext.alloc | apply Ext.more)⟩)
      | (have hok' : ok = true := by simpa using hok
         have e1 := (hz.out.1 hok')
         have e2 : resN (numR r) = (⟨2, z, ⟨#[]⟩⟩, 0) := by simp [resN, numR, e1]
         rw [e2]
         refine bodyPost_ret (v := .tuple #[.agg #[.int .i64 2, .int .i64 z, .string ⟨#[]⟩], .int .i64 0]) (by simp [results, Try.results30, go_sem]) rfl ⟨rfl, by repeat (first | exact Ext.refl _ | apply Ext.alloc | apply Ext.more)⟩)

theorem quo_sign (i i' x y : Int) (hx : (i.natAbs : Int) = x) (hy : (i'.natAbs : Int) = y) (z : Int) (ok : Bool) (n : Bool) (hn : n = (!(decide (i < 0) == decide (i' < 0)))) (h : Says z ok (if n = true then -(x / y) else x / y)) : Says z ok (i.tdiv i') := by
  have e0 : x.tdiv y = x / y := Int.tdiv_eq_ediv_of_nonneg (by omega)
  have e : (if n = true then -(x / y) else x / y) = i.tdiv i' := by
    subst hn
    rw [← e0]
    by_cases c1 : i < 0
    · rw [decide_eq_true c1]
      have e1 : i = -x := by omega
      by_cases c2 : i' < 0
      · rw [decide_eq_true c2]
        have e2 : i' = -y := by omega
        rw [e1, e2]; simp
      · rw [decide_eq_false c2]
        have e2 : i' = y := by omega
        rw [e1, e2]; simp
    · rw [decide_eq_false c1]
      have e1 : i = x := by omega
      by_cases c2 : i' < 0
      · rw [decide_eq_true c2]
        have e2 : i' = -y := by omega
        rw [e1, e2]; simp
      · rw [decide_eq_false c2]
        have e2 : i' = y := by omega
        rw [e1, e2]; simp
  rw [e] at h
  exact h

set_option maxHeartbeats 1000000 in
theorem two_zero (op : Int) (i : Int) (s : ByteArray) (s' : ByteArray) (h0 : op = 3 ∨ op = 4) (h1 : mayB 2 i s = true) (h2 : mayB 2 0 s' = true) (w : World) :
    Calls Try.prog 30 #[.int .i64 op, .agg #[.int .i64 2, .int .i64 i, .string s], .agg #[.int .i64 2, .int .i64 0, .string s']] w fun e w' => e = .returned (.tuple #[.agg #[.int .i64 0, .int .i64 0, .string ⟨#[]⟩], .int .i64 9]) ∧ Ext w w' := by
  have m1 := fun w => rmay_any 2 i s w
  have m2 := fun w => rmay_any 2 0 s' w
  rw [h1] at m1
  rw [h2] at m2
  have M1 := Lib.hid m1
  have M2 := Lib.hid m2
  clear m1 m2 h1 h2
  rcases h0 with rfl | rfl
  all_goals
    go_enter Try.func30, Try.ntmps30
    go_wp2_with (go_at_call 15; (first | with_reducible refine (M1.out _).mono ?_ | with_reducible refine (M2.out _).mono ?_); rintro e _ ⟨rfl, d, os, rfl⟩)
    refine bodyPost_ret (v := .tuple #[.agg #[.int .i64 0, .int .i64 0, .string ⟨#[]⟩], .int .i64 9]) (by simp [results, Try.results30, go_sem]) rfl ⟨rfl, by repeat (first | exact Ext.refl _ | apply Ext.alloc | apply Ext.more)⟩

set_option maxHeartbeats 2000000 in
theorem two_op3 (i : Int) (s : ByteArray) (i' : Int) (s' : ByteArray) (hi : In64 i) (hi' : In64 i') (hn : ¬ i' = 0) (h1 : mayB 2 i s = true) (h2 : mayB 2 i' s' = true) (w : World) :
    Calls Try.prog 30 #[.int .i64 3, .agg #[.int .i64 2, .int .i64 i, .string s], .agg #[.int .i64 2, .int .i64 i', .string s']] w fun e w' => e = .returned (resV (resN (numR (i.tdiv i')))) ∧ Ext w w' := by
  have m1 := fun w => rmay_any 2 i s w
  have m2 := fun w => rmay_any 2 i' s' w
  rw [h1] at m1
  rw [h2] at m2
  have M1 := Lib.hid m1
  have M2 := Lib.hid m2
  have c1 := fun w => size_any i hi w
  have c2 := fun w => size_any i' hi' w
  obtain ⟨x, hx⟩ : ∃ x : Int, (i.natAbs : Int) = x := ⟨_, rfl⟩
  obtain ⟨y, hy⟩ : ∃ y : Int, (i'.natAbs : Int) = y := ⟨_, rfl⟩
  rw [hx] at c1
  rw [hy] at c2
  have S1 := Lib.hid c1
  have S2 := Lib.hid c2
  have hx0 : 0 ≤ x := by omega
  have hx1 : x ≤ 9223372036854775808 := by unfold In64 at hi; omega
  have hy0 : 0 < y := by omega
  have hy1 : y ≤ 9223372036854775808 := by unfold In64 at hi'; omega
  clear m1 m2 h1 h2 c1 c2
  obtain ⟨r, hr⟩ : ∃ r, i.tdiv i' = r := ⟨_, rfl⟩
  rw [hr]
  go_enter Try.func30, Try.ntmps30
  go_wp2_with (go_at_call 15; (first | with_reducible refine (M1.out _).mono ?_ | with_reducible refine (M2.out _).mono ?_); rintro e _ ⟨rfl, d, os, rfl⟩)
  refine wp_region_grow 5 108 [false, false, false, false, false] (by kernel_rfl) (by kernel_rfl) rfl ?_
  simp only [List.take_succ_cons, List.take_zero, List.drop_succ_cons, List.drop_zero]
  repeat (refine Lex.step rfl ?_; intro K hK; unfold StepG; go_simp; (first
    | refine hK _ ?_
    | (with_reducible refine ⟨_, ret_of (S1.out), ?_⟩; go_simp; refine hK _ ?_)
    | (with_reducible refine ⟨_, ret_of (S2.out), ?_⟩; go_simp; refine hK _ ?_)); clear hK K)
  refine Lex.nil fun W hE => ?_
  obtain ⟨d3, os3, rfl⟩ := hE
  unfold FillH
  go_wp2_with (go_at_call 46; (first | with_reducible refine (S1.out _).mono ?_ | with_reducible refine (S2.out _).mono ?_); rintro e _ ⟨rfl, d, os, rfl⟩)
  rw [ends_normal]
  go_wp2_with fail
  refine wp_region_grow 7 108 (List.replicate 7 false) (by kernel_rfl) (by kernel_rfl) rfl ?_
  simp only [List.take_succ_cons, List.take_zero, List.drop_succ_cons, List.drop_zero, List.replicate_succ, List.replicate_zero]
  repeat (refine Lex.step rfl ?_; intro K hK; unfold StepG; go_simp; (first
    | refine hK _ ?_
    | (with_reducible refine ⟨_, ret_of (S1.out), ?_⟩; go_simp; refine hK _ ?_)
    | (with_reducible refine ⟨_, ret_of (S2.out), ?_⟩; go_simp; refine hK _ ?_)); clear hK K)
  refine Lex.nil fun W hE => ?_
  obtain ⟨d4, os4, rfl⟩ := hE
  unfold FillH
  go_wp2_with fail
  rw [ends_normal]
  go_wp2_with fail
  have hq0 : 0 ≤ x / y := Int.ediv_nonneg hx0 (by omega)
  have hq1 : x / y ≤ x := Int.ediv_le_self _ hx0
  refine (signed_says (x / y) _ ⟨hq0, by omega⟩ _).mono ?_
  rintro e _ ⟨z, ok, rfl, hz, d, os, rfl⟩
  have hz := Lib.hid (quo_sign i i' x y hx hy z ok _ rfl hz)
  clear hx hy hx0 hx1 hy0 hy1 hq0 hq1 hi hi'
  rw [hr] at hz
  go_wp2_with (go_at_call 21; refine (rint_any _ _).mono ?_; rintro e _ ⟨rfl, d, os, rfl⟩)
  all_goals
    rename_i hok
    first
      | (have hok' : ok = false := by simpa using hok
         have e1 := (hz.out.2 hok')
         have e2 : resN (numR r) = (⟨0, 0, ⟨#[]⟩⟩, 8) := by simp [resN, numR, e1]
         rw [e2]
         refine bodyPost_ret (v := .tuple #[.agg #[.int .i64 0, .int .i64 0, .string ⟨#[]⟩], .int .i64 8]) (by simp [results, Try.results30, go_sem]) rfl ⟨rfl, by repeat (first | exact Ext.refl _ | apply Ext.alloc | apply Ext.more)⟩)
      | (have hok' : ok = true := by simpa using hok
         have e1 := (hz.out.1 hok')
         have e2 : resN (numR r) = (⟨2, z, ⟨#[]⟩⟩, 0) := by simp [resN, numR, e1]
         rw [e2]
         refine bodyPost_ret (v := .tuple #[.agg #[.int .i64 2, .int .i64 z, .string ⟨#[]⟩], .int .i64 0]) (by simp [results, Try.results30, go_sem]) rfl ⟨rfl, by repeat (first | exact Ext.refl _ | apply Ext.alloc | apply Ext.more)⟩)

theorem rem_sign (i i' x y : Int) (hx : (i.natAbs : Int) = x) (hy : (i'.natAbs : Int) = y) (z : Int) (ok : Bool) (n : Bool) (hn : n = decide (i < 0)) (h : Says z ok (if n = true then -(x % y) else x % y)) : Says z ok (i.tmod i') := by
  have e0 : x.tmod y = x % y := Int.tmod_eq_emod_of_nonneg (by omega)
  have e : (if n = true then -(x % y) else x % y) = i.tmod i' := by
    subst hn
    rw [← e0]
    by_cases c1 : i < 0
    · rw [decide_eq_true c1]
      have e1 : i = -x := by omega
      by_cases c2 : i' < 0
      · have e2 : i' = -y := by omega
        rw [e1, e2]; simp
      · have e2 : i' = y := by omega
        rw [e1, e2]; simp
    · rw [decide_eq_false c1]
      have e1 : i = x := by omega
      by_cases c2 : i' < 0
      · have e2 : i' = -y := by omega
        rw [e1, e2]; simp
      · have e2 : i' = y := by omega
        rw [e1, e2]; simp
  rw [e] at h
  exact h

set_option maxHeartbeats 2000000 in
theorem two_op4 (i : Int) (s : ByteArray) (i' : Int) (s' : ByteArray) (hi : In64 i) (hi' : In64 i') (hn : ¬ i' = 0) (h1 : mayB 2 i s = true) (h2 : mayB 2 i' s' = true) (w : World) :
    Calls Try.prog 30 #[.int .i64 4, .agg #[.int .i64 2, .int .i64 i, .string s], .agg #[.int .i64 2, .int .i64 i', .string s']] w fun e w' => e = .returned (resV (resN (numR (i.tmod i')))) ∧ Ext w w' := by
  have m1 := fun w => rmay_any 2 i s w
  have m2 := fun w => rmay_any 2 i' s' w
  rw [h1] at m1
  rw [h2] at m2
  have M1 := Lib.hid m1
  have M2 := Lib.hid m2
  have c1 := fun w => size_any i hi w
  have c2 := fun w => size_any i' hi' w
  obtain ⟨x, hx⟩ : ∃ x : Int, (i.natAbs : Int) = x := ⟨_, rfl⟩
  obtain ⟨y, hy⟩ : ∃ y : Int, (i'.natAbs : Int) = y := ⟨_, rfl⟩
  rw [hx] at c1
  rw [hy] at c2
  have S1 := Lib.hid c1
  have S2 := Lib.hid c2
  have hx0 : 0 ≤ x := by omega
  have hx1 : x ≤ 9223372036854775808 := by unfold In64 at hi; omega
  have hy0 : 0 < y := by omega
  have hy1 : y ≤ 9223372036854775808 := by unfold In64 at hi'; omega
  clear m1 m2 h1 h2 c1 c2
  obtain ⟨r, hr⟩ : ∃ r, i.tmod i' = r := ⟨_, rfl⟩
  rw [hr]
  go_enter Try.func30, Try.ntmps30
  go_wp2_with (go_at_call 15; (first | with_reducible refine (M1.out _).mono ?_ | with_reducible refine (M2.out _).mono ?_); rintro e _ ⟨rfl, d, os, rfl⟩)
  refine wp_region_grow 5 108 [false, false, false, false, false] (by kernel_rfl) (by kernel_rfl) rfl ?_
  simp only [List.take_succ_cons, List.take_zero, List.drop_succ_cons, List.drop_zero]
  repeat (refine Lex.step rfl ?_; intro K hK; unfold StepG; go_simp; (first
    | refine hK _ ?_
    | (with_reducible refine ⟨_, ret_of (S1.out), ?_⟩; go_simp; refine hK _ ?_)
    | (with_reducible refine ⟨_, ret_of (S2.out), ?_⟩; go_simp; refine hK _ ?_)); clear hK K)
  refine Lex.nil fun W hE => ?_
  obtain ⟨d3, os3, rfl⟩ := hE
  unfold FillH
  go_wp2_with (go_at_call 46; (first | with_reducible refine (S1.out _).mono ?_ | with_reducible refine (S2.out _).mono ?_); rintro e _ ⟨rfl, d, os, rfl⟩)
  rw [ends_normal]
  go_wp2_with fail
  refine wp_region_grow 7 108 (List.replicate 7 false) (by kernel_rfl) (by kernel_rfl) rfl ?_
  simp only [List.take_succ_cons, List.take_zero, List.drop_succ_cons, List.drop_zero, List.replicate_succ, List.replicate_zero]
  repeat (refine Lex.step rfl ?_; intro K hK; unfold StepG; go_simp; (first
    | refine hK _ ?_
    | (with_reducible refine ⟨_, ret_of (S1.out), ?_⟩; go_simp; refine hK _ ?_)
    | (with_reducible refine ⟨_, ret_of (S2.out), ?_⟩; go_simp; refine hK _ ?_)); clear hK K)
  refine Lex.nil fun W hE => ?_
  obtain ⟨d4, os4, rfl⟩ := hE
  unfold FillH
  go_wp2_with fail
  rw [ends_normal]
  go_wp2_with fail
  have hq0 : 0 ≤ x % y := Int.emod_nonneg _ (by omega)
  have hq1 : x % y < y := Int.emod_lt_of_pos _ hy0
  have hd := Int.emod_add_mul_ediv x y
  rw [Int.mul_comm y] at hd
  have hw : IntKind.u64.wrap (x - IntKind.u64.wrap (x / y * y)) = x % y := by
    rw [IntKind.wrap_u64, IntKind.wrap_u64]
    generalize x / y * y = t at *
    omega
  rw [hw]
  refine (signed_says (x % y) _ ⟨hq0, by omega⟩ _).mono ?_
  rintro e _ ⟨z, ok, rfl, hz, d, os, rfl⟩
  have hz := Lib.hid (rem_sign i i' x y hx hy z ok _ rfl hz)
  clear hx hy hx0 hx1 hy0 hy1 hq0 hq1 hi hi' hd hw
  rw [hr] at hz
  go_wp2_with (go_at_call 21; refine (rint_any _ _).mono ?_; rintro e _ ⟨rfl, d, os, rfl⟩)
  all_goals
    rename_i hok
    first
      | (have hok' : ok = false := by simpa using hok
         have e1 := (hz.out.2 hok')
         have e2 : resN (numR r) = (⟨0, 0, ⟨#[]⟩⟩, 8) := by simp [resN, numR, e1]
         rw [e2]
         refine bodyPost_ret (v := .tuple #[.agg #[.int .i64 0, .int .i64 0, .string ⟨#[]⟩], .int .i64 8]) (by simp [results, Try.results30, go_sem]) rfl ⟨rfl, by repeat (first | exact Ext.refl _ | apply Ext.alloc | apply Ext.more)⟩)
      | (have hok' : ok = true := by simpa using hok
         have e1 := (hz.out.1 hok')
         have e2 : resN (numR r) = (⟨2, z, ⟨#[]⟩⟩, 0) := by simp [resN, numR, e1]
         rw [e2]
         refine bodyPost_ret (v := .tuple #[.agg #[.int .i64 2, .int .i64 z, .string ⟨#[]⟩], .int .i64 0]) (by simp [results, Try.results30, go_sem]) rfl ⟨rfl, by repeat (first | exact Ext.refl _ | apply Ext.alloc | apply Ext.more)⟩)


/-- the cases put together -/
theorem two_goal {P : Program} {f : FuncId} (op k i : Int) (s : ByteArray) (k' i' : Int) (s' : ByteArray) (r : Int × Int) (w : World)
    (g1 : mayB k i s = false → Calls P f #[.int .i64 op, .agg #[.int .i64 k, .int .i64 i, .string s], .agg #[.int .i64 k', .int .i64 i', .string s']] w fun e w' => e = .returned (.tuple #[.agg #[.int .i64 0, .int .i64 0, .string ⟨#[]⟩], .int .i64 1]) ∧ Ext w w')
    (g2 : mayB k i s = true → mayB k' i' s' = false → Calls P f #[.int .i64 op, .agg #[.int .i64 k, .int .i64 i, .string s], .agg #[.int .i64 k', .int .i64 i', .string s']] w fun e w' => e = .returned (.tuple #[.agg #[.int .i64 0, .int .i64 0, .string ⟨#[]⟩], .int .i64 1]) ∧ Ext w w')
    (g3 : mayB k i s = true → mayB k' i' s' = true → (k != 2) = true ∨ ((k != 2) = false ∧ (k' != 2) = true) → Calls P f #[.int .i64 op, .agg #[.int .i64 k, .int .i64 i, .string s], .agg #[.int .i64 k', .int .i64 i', .string s']] w fun e w' => e = .returned (.tuple #[.agg #[.int .i64 0, .int .i64 0, .string ⟨#[]⟩], .int .i64 10]) ∧ Ext w w')
    (g4 : mayB k i s = true → mayB k' i' s' = true → k = 2 → k' = 2 → Calls P f #[.int .i64 op, .agg #[.int .i64 k, .int .i64 i, .string s], .agg #[.int .i64 k', .int .i64 i', .string s']] w fun e w' => e = .returned (resV (resN r)) ∧ Ext w w') :
    Calls P f #[.int .i64 op, .agg #[.int .i64 k, .int .i64 i, .string s], .agg #[.int .i64 k', .int .i64 i', .string s']] w fun e w' => e = .returned (resV (opF k i s k' i' s' r)) ∧ Ext w w' := by
  by_cases h1 : mayB k i s = true
  case neg =>
    have h1 : mayB k i s = false := by simpa using h1
    have hr : opF k i s k' i' s' r = (⟨0, 0, ⟨#[]⟩⟩, 1) := by simp [opF, h1]
    rw [hr]; exact g1 h1
  by_cases h2 : mayB k' i' s' = true
  case neg =>
    have h2 : mayB k' i' s' = false := by simpa using h2
    have hr : opF k i s k' i' s' r = (⟨0, 0, ⟨#[]⟩⟩, 1) := by simp [opF, h2]
    rw [hr]; exact g2 h1 h2
  by_cases h3 : k = 2
  case neg =>
    have hr : opF k i s k' i' s' r = (⟨0, 0, ⟨#[]⟩⟩, 10) := by simp [opF, h1, h2, h3]
    rw [hr]; exact g3 h1 h2 (.inl (by simpa using h3))
  by_cases h4 : k' = 2
  case neg =>
    have hr : opF k i s k' i' s' r = (⟨0, 0, ⟨#[]⟩⟩, 10) := by simp [opF, h1, h2, h4]
    rw [hr]; exact g3 h1 h2 (.inr ⟨by simpa using h3, by simpa using h4⟩)
  have hr : opF k i s k' i' s' r = resN r := by unfold opF resN; rw [h1, h2, if_neg (by simp), if_neg (by simp [h3, h4])]
  rw [hr]; exact g4 h1 h2 h3 h4

theorem two0_any (k i : Int) (s : ByteArray) (k' i' : Int) (s' : ByteArray) (hi : In64 i) (hi' : In64 i') (v : Val) (n : Int) (h : opF k i s k' i' s' (numR (i + i')) = (v, n)) (w : World) :
    Calls Try.prog 30 #[.int .i64 0, .agg #[.int .i64 k, .int .i64 i, .string s], .agg #[.int .i64 k', .int .i64 i', .string s']] w fun e w' => e = .returned (.tuple #[.agg #[.int .i64 v.k, .int .i64 v.i, .string v.s], .int .i64 n]) ∧ Ext w w' := by
  have g := two_goal (f := 30) (P := Try.prog) 0 k i s k' i' s' (numR (i + i')) w (fun h1 => two_m1 0 k i s k' i' s' h1 w) (fun h1 h2 => two_m2 0 k i s k' i' s' h1 h2 w) (fun h1 h2 h3 => two_k 0 k i s k' i' s' h1 h2 h3 w)
    (fun h1 h2 h3 h4 => by
      subst h3 h4
      exact two_op0 i s i' s' hi hi' h1 h2 w)
  rw [h] at g
  exact g

theorem two1_any (k i : Int) (s : ByteArray) (k' i' : Int) (s' : ByteArray) (hi : In64 i) (hi' : In64 i') (v : Val) (n : Int) (h : opF k i s k' i' s' (numR (i - i')) = (v, n)) (w : World) :
    Calls Try.prog 30 #[.int .i64 1, .agg #[.int .i64 k, .int .i64 i, .string s], .agg #[.int .i64 k', .int .i64 i', .string s']] w fun e w' => e = .returned (.tuple #[.agg #[.int .i64 v.k, .int .i64 v.i, .string v.s], .int .i64 n]) ∧ Ext w w' := by
  have g := two_goal (f := 30) (P := Try.prog) 1 k i s k' i' s' (numR (i - i')) w (fun h1 => two_m1 1 k i s k' i' s' h1 w) (fun h1 h2 => two_m2 1 k i s k' i' s' h1 h2 w) (fun h1 h2 h3 => two_k 1 k i s k' i' s' h1 h2 h3 w)
    (fun h1 h2 h3 h4 => by
      subst h3 h4
      exact two_op1 i s i' s' hi hi' h1 h2 w)
  rw [h] at g
  exact g

theorem two2_any (k i : Int) (s : ByteArray) (k' i' : Int) (s' : ByteArray) (hi : In64 i) (hi' : In64 i') (v : Val) (n : Int) (h : opF k i s k' i' s' (numR (i * i')) = (v, n)) (w : World) :
    Calls Try.prog 30 #[.int .i64 2, .agg #[.int .i64 k, .int .i64 i, .string s], .agg #[.int .i64 k', .int .i64 i', .string s']] w fun e w' => e = .returned (.tuple #[.agg #[.int .i64 v.k, .int .i64 v.i, .string v.s], .int .i64 n]) ∧ Ext w w' := by
  have g := two_goal (f := 30) (P := Try.prog) 2 k i s k' i' s' (numR (i * i')) w (fun h1 => two_m1 2 k i s k' i' s' h1 w) (fun h1 h2 => two_m2 2 k i s k' i' s' h1 h2 w) (fun h1 h2 h3 => two_k 2 k i s k' i' s' h1 h2 h3 w)
    (fun h1 h2 h3 h4 => by
      subst h3 h4
      exact two_op2 i s i' s' hi hi' h1 h2 w)
  rw [h] at g
  exact g

theorem two3_any (k i : Int) (s : ByteArray) (k' i' : Int) (s' : ByteArray) (hi : In64 i) (hi' : In64 i') (v : Val) (n : Int) (h : opF k i s k' i' s' (divR i i') = (v, n)) (w : World) :
    Calls Try.prog 30 #[.int .i64 3, .agg #[.int .i64 k, .int .i64 i, .string s], .agg #[.int .i64 k', .int .i64 i', .string s']] w fun e w' => e = .returned (.tuple #[.agg #[.int .i64 v.k, .int .i64 v.i, .string v.s], .int .i64 n]) ∧ Ext w w' := by
  have g := two_goal (f := 30) (P := Try.prog) 3 k i s k' i' s' (divR i i') w (fun h1 => two_m1 3 k i s k' i' s' h1 w) (fun h1 h2 => two_m2 3 k i s k' i' s' h1 h2 w) (fun h1 h2 h3 => two_k 3 k i s k' i' s' h1 h2 h3 w)
    (fun h1 h2 h3 h4 => by
      subst h3 h4
      by_cases h0 : i' = 0
      · subst h0
        exact two_zero 3 i s s' (.inl rfl) h1 h2 w
      · have e : divR i i' = numR (i.tdiv i') := by unfold divR; rw [if_neg h0]
        rw [e]; exact two_op3 i s i' s' hi hi' h0 h1 h2 w)
  rw [h] at g
  exact g

theorem two4_any (k i : Int) (s : ByteArray) (k' i' : Int) (s' : ByteArray) (hi : In64 i) (hi' : In64 i') (v : Val) (n : Int) (h : opF k i s k' i' s' (modR i i') = (v, n)) (w : World) :
    Calls Try.prog 30 #[.int .i64 4, .agg #[.int .i64 k, .int .i64 i, .string s], .agg #[.int .i64 k', .int .i64 i', .string s']] w fun e w' => e = .returned (.tuple #[.agg #[.int .i64 v.k, .int .i64 v.i, .string v.s], .int .i64 n]) ∧ Ext w w' := by
  have g := two_goal (f := 30) (P := Try.prog) 4 k i s k' i' s' (modR i i') w (fun h1 => two_m1 4 k i s k' i' s' h1 w) (fun h1 h2 => two_m2 4 k i s k' i' s' h1 h2 w) (fun h1 h2 h3 => two_k 4 k i s k' i' s' h1 h2 h3 w)
    (fun h1 h2 h3 h4 => by
      subst h3 h4
      by_cases h0 : i' = 0
      · subst h0
        exact two_zero 4 i s s' (.inr rfl) h1 h2 w
      · have c : In64 (i.tmod i') := by
          have a1 : (i.tmod i').natAbs ≤ i.natAbs := by rw [Int.natAbs_tmod]; exact Nat.mod_le _ _
          have a2 : 0 ≤ i → 0 ≤ i.tmod i' := fun h => Int.tmod_nonneg _ h
          have a3 : i ≤ 0 → i.tmod i' ≤ 0 := fun h => by
            have := Int.tmod_nonneg i' (a := -i) (by omega)
            rw [Int.neg_tmod] at this
            omega
          unfold In64 at hi ⊢; omega
        have e : modR i i' = numR (i.tmod i') := by unfold modR numR; rw [if_neg h0, if_pos c]
        rw [e]; exact two_op4 i s i' s' hi hi' h0 h1 h2 w)
  rw [h] at g
  exact g

end Go.Proofs.Ythekfgbiplmikaa
