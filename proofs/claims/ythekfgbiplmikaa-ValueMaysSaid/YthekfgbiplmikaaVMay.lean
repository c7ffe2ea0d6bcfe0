/-
  Proved here: 'Rows.ValueMaysSaid': for every two values a, b and every number n the law plenumlaw07.ValueMays returns true and leaves what came in as it was.
  Conditions: none.
-/
import Derived.Test.YthekfgbiplmikaaVOrd
import Derived.Lib.SmallJoins
set_option linter.unusedSimpArgs false
set_option linter.unusedVariables false
namespace Go.Proofs.Ythekfgbiplmikaa
open Go.RowKit

set_option maxHeartbeats 4000000 in
set_option maxRecDepth 100000 in
theorem vmays_0l (k i : Int) (s t : ByteArray) (k' i' : Int) (s' t' : ByteArray) (n o : Int) (q : Bool) (w : World) (ho : True) (hs : 64 < (t.size : Int))
    (C0 : RowKit.Hid (∀ w, Calls Try.prog 10 #[.agg #[.int .i64 k, .int .i64 i, .string s]] w fun e w' => e = .returned (.agg #[.int .i64 k, .int .i64 i, .string t]) ∧ Ext w w')) (C0' : RowKit.Hid (∀ w, Calls Try.prog 10 #[.agg #[.int .i64 k', .int .i64 i', .string s']] w fun e w' => e = .returned (.agg #[.int .i64 k', .int .i64 i', .string t']) ∧ Ext w w'))
    (C1 : RowKit.Hid (∀ w, Calls Try.prog 15 #[.agg #[.int .i64 k, .int .i64 i, .string t]] w fun e w' => e = .returned (.bool false) ∧ Ext w w')) (C2 : RowKit.Hid (∀ w, Calls Try.prog 15 #[.agg #[.int .i64 k', .int .i64 i', .string t']] w fun e w' => e = .returned (.bool q) ∧ Ext w w'))
    (C3 : RowKit.Hid (∀ w, Calls Try.prog 16 #[.agg #[.int .i64 k, .int .i64 i, .string t], .agg #[.int .i64 k', .int .i64 i', .string t']] w fun e w' => e = .returned (.int .i64 o) ∧ Ext w w')) (C4 : RowKit.Hid (∀ w, Calls Try.prog 18 #[.agg #[.int .i64 k, .int .i64 i, .string t]] w fun e w' => e = .returned (.bool false) ∧ Ext w w'))
    (C6 : RowKit.Hid (∀ w, Calls Try.prog 19 #[.agg #[.int .i64 k, .int .i64 i, .string t], .agg #[.int .i64 k', .int .i64 i', .string t']] w fun e w' => e = .returned (.bool false) ∧ Ext w w')) (CT : RowKit.Hid (∀ w, Calls Try.prog 17 #[.string t] w fun e w' => e = .returned (.tuple #[.agg #[.int .i64 0, .int .i64 0, .string ⟨#[]⟩], .int .i64 5]) ∧ Ext w w')) :
    Calls Try.prog 4 #[.agg #[.int .i64 k, .int .i64 i, .string s], .agg #[.int .i64 k', .int .i64 i', .string s'], .int .i64 n] w fun e w' => e = .returned (.bool true) ∧ Ext w w' := by
  go_enter Try.func4, Try.ntmps4
  go_wp2_with fail
  refine wp_region_grow 3 88 [false, false, false] (by kernel_rfl) (by kernel_rfl) rfl ?_
  simp only [List.take_succ_cons, List.take_zero, List.drop_succ_cons, List.drop_zero]
  repeat (first
    | (refine Lex.step rfl ?_; intro K hK; unfold StepG; go_simp; refine hK _ ?_; clear hK K)
    | (refine Lex.step rfl ?_; intro K hK; unfold StepG; go_simp; refine ⟨_, fun d os => (C0.out _).mono fun e w' ⟨he, hx⟩ => ⟨_, he, hx, rfl⟩, ?_⟩; go_simp; refine hK _ ?_; clear hK K))
  refine Lex.nil fun W hE => ?_
  obtain ⟨d3, os3, rfl⟩ := hE
  unfold FillH
  go_wp2_with (go_at_call 10; refine (C0'.out _).mono ?_; rintro e _ ⟨rfl, d, os, rfl⟩)
  rw [ends_normal]
  go_wp2_with (first
    | (go_at_call 15; (first | with_reducible refine (C1.out _).mono ?_ | with_reducible refine (C2.out _).mono ?_); rintro e _ ⟨rfl, d, os, rfl⟩)
    | (go_at_call 16; refine (C3.out _).mono ?_; rintro e _ ⟨rfl, d, os, rfl⟩)
    | (go_at_call 17; refine (CT.out _).mono ?_; rintro e _ ⟨rfl, d, os, rfl⟩))
  refine wp_region_grow 31 88 (List.replicate 31 false) (by kernel_rfl) (by kernel_rfl) rfl ?_
  simp only [List.take_succ_cons, List.take_zero, List.drop_succ_cons, List.drop_zero, List.replicate_succ, List.replicate_zero]
  repeat (refine Lex.step rfl ?_; intro K hK; unfold StepG; go_simp; (first
    | refine hK _ ?_
    | (refine ⟨_, fun d os => (C4.out _).mono fun e w' ⟨he, hx⟩ => ⟨_, he, hx, rfl⟩, ?_⟩; go_simp; refine hK _ ?_)
    | (refine ⟨_, fun d os => (C1.out _).mono fun e w' ⟨he, hx⟩ => ⟨_, he, hx, rfl⟩, ?_⟩; go_simp; refine hK _ ?_)
    | (refine ⟨_, fun d os => (C6.out _).mono fun e w' ⟨he, hx⟩ => ⟨_, he, hx, rfl⟩, ?_⟩; go_simp; refine hK _ ?_)
    | (refine ⟨_, fun d os => (int_any _ _).mono fun e w' ⟨he, hx⟩ => ⟨_, he, hx, rfl⟩, ?_⟩; go_simp; refine hK _ ?_)
    | (refine ⟨_, fun d os => (rint_any _ _).mono fun e w' ⟨he, hx⟩ => ⟨_, he, hx, rfl⟩, ?_⟩; go_simp; refine hK _ ?_)
    | (refine ⟨_, fun d os => (bool_any _ _).mono fun e w' ⟨he, hx⟩ => ⟨_, he, hx, rfl⟩, ?_⟩; go_simp; refine hK _ ?_)
    | (refine ⟨_, fun d os => (rbool_any _ _).mono fun e w' ⟨he, hx⟩ => ⟨_, he, hx, rfl⟩, ?_⟩; go_simp; refine hK _ ?_)
    | (refine ⟨_, fun d os => (nil_any _).mono fun e w' ⟨he, hx⟩ => ⟨_, he, hx, rfl⟩, ?_⟩; go_simp; refine hK _ ?_)); clear hK K)
  refine Lex.nil fun W hE => ?_
  obtain ⟨d4, os4, rfl⟩ := hE
  unfold FillH
  go_wp2_with (go_at_call 14; refine (awake_any _).mono ?_; rintro e _ ⟨rfl, d, os, rfl⟩)
  rw [ends_normal]
  go_wp2_with fail
  go_ret
  exact ⟨rfl, by repeat (first | exact Ext.refl _ | apply Ext.alloc | apply Ext.more)⟩

set_option maxHeartbeats 4000000 in
set_option maxRecDepth 100000 in
theorem vmays_0s (k i : Int) (s t : ByteArray) (k' i' : Int) (s' t' : ByteArray) (n o : Int) (q : Bool) (w : World) (ho : True) (hs : (t.size : Int) ≤ 64)
    (C0 : RowKit.Hid (∀ w, Calls Try.prog 10 #[.agg #[.int .i64 k, .int .i64 i, .string s]] w fun e w' => e = .returned (.agg #[.int .i64 k, .int .i64 i, .string t]) ∧ Ext w w')) (C0' : RowKit.Hid (∀ w, Calls Try.prog 10 #[.agg #[.int .i64 k', .int .i64 i', .string s']] w fun e w' => e = .returned (.agg #[.int .i64 k', .int .i64 i', .string t']) ∧ Ext w w'))
    (C1 : RowKit.Hid (∀ w, Calls Try.prog 15 #[.agg #[.int .i64 k, .int .i64 i, .string t]] w fun e w' => e = .returned (.bool false) ∧ Ext w w')) (C2 : RowKit.Hid (∀ w, Calls Try.prog 15 #[.agg #[.int .i64 k', .int .i64 i', .string t']] w fun e w' => e = .returned (.bool q) ∧ Ext w w'))
    (C3 : RowKit.Hid (∀ w, Calls Try.prog 16 #[.agg #[.int .i64 k, .int .i64 i, .string t], .agg #[.int .i64 k', .int .i64 i', .string t']] w fun e w' => e = .returned (.int .i64 o) ∧ Ext w w')) (C4 : RowKit.Hid (∀ w, Calls Try.prog 18 #[.agg #[.int .i64 k, .int .i64 i, .string t]] w fun e w' => e = .returned (.bool false) ∧ Ext w w'))
    (C6 : RowKit.Hid (∀ w, Calls Try.prog 19 #[.agg #[.int .i64 k, .int .i64 i, .string t], .agg #[.int .i64 k', .int .i64 i', .string t']] w fun e w' => e = .returned (.bool false) ∧ Ext w w')) (CT : RowKit.Hid (∀ w, Calls Try.prog 17 #[.string t] w fun e w' => e = .returned (.tuple #[.agg #[.int .i64 3, .int .i64 0, .string t], .int .i64 0]) ∧ Ext w w')) :
    Calls Try.prog 4 #[.agg #[.int .i64 k, .int .i64 i, .string s], .agg #[.int .i64 k', .int .i64 i', .string s'], .int .i64 n] w fun e w' => e = .returned (.bool true) ∧ Ext w w' := by
  go_enter Try.func4, Try.ntmps4
  go_wp2_with fail
  refine wp_region_grow 3 88 [false, false, false] (by kernel_rfl) (by kernel_rfl) rfl ?_
  simp only [List.take_succ_cons, List.take_zero, List.drop_succ_cons, List.drop_zero]
  repeat (first
    | (refine Lex.step rfl ?_; intro K hK; unfold StepG; go_simp; refine hK _ ?_; clear hK K)
    | (refine Lex.step rfl ?_; intro K hK; unfold StepG; go_simp; refine ⟨_, fun d os => (C0.out _).mono fun e w' ⟨he, hx⟩ => ⟨_, he, hx, rfl⟩, ?_⟩; go_simp; refine hK _ ?_; clear hK K))
  refine Lex.nil fun W hE => ?_
  obtain ⟨d3, os3, rfl⟩ := hE
  unfold FillH
  go_wp2_with (go_at_call 10; refine (C0'.out _).mono ?_; rintro e _ ⟨rfl, d, os, rfl⟩)
  rw [ends_normal]
  go_wp2_with (first
    | (go_at_call 15; (first | with_reducible refine (C1.out _).mono ?_ | with_reducible refine (C2.out _).mono ?_); rintro e _ ⟨rfl, d, os, rfl⟩)
    | (go_at_call 16; refine (C3.out _).mono ?_; rintro e _ ⟨rfl, d, os, rfl⟩)
    | (go_at_call 17; refine (CT.out _).mono ?_; rintro e _ ⟨rfl, d, os, rfl⟩))
  refine wp_region_grow 31 88 (List.replicate 31 false) (by kernel_rfl) (by kernel_rfl) rfl ?_
  simp only [List.take_succ_cons, List.take_zero, List.drop_succ_cons, List.drop_zero, List.replicate_succ, List.replicate_zero]
  repeat (refine Lex.step rfl ?_; intro K hK; unfold StepG; go_simp; (first
    | refine hK _ ?_
    | (refine ⟨_, fun d os => (C4.out _).mono fun e w' ⟨he, hx⟩ => ⟨_, he, hx, rfl⟩, ?_⟩; go_simp; refine hK _ ?_)
    | (refine ⟨_, fun d os => (C1.out _).mono fun e w' ⟨he, hx⟩ => ⟨_, he, hx, rfl⟩, ?_⟩; go_simp; refine hK _ ?_)
    | (refine ⟨_, fun d os => (C6.out _).mono fun e w' ⟨he, hx⟩ => ⟨_, he, hx, rfl⟩, ?_⟩; go_simp; refine hK _ ?_)
    | (refine ⟨_, fun d os => (int_any _ _).mono fun e w' ⟨he, hx⟩ => ⟨_, he, hx, rfl⟩, ?_⟩; go_simp; refine hK _ ?_)
    | (refine ⟨_, fun d os => (rint_any _ _).mono fun e w' ⟨he, hx⟩ => ⟨_, he, hx, rfl⟩, ?_⟩; go_simp; refine hK _ ?_)
    | (refine ⟨_, fun d os => (bool_any _ _).mono fun e w' ⟨he, hx⟩ => ⟨_, he, hx, rfl⟩, ?_⟩; go_simp; refine hK _ ?_)
    | (refine ⟨_, fun d os => (rbool_any _ _).mono fun e w' ⟨he, hx⟩ => ⟨_, he, hx, rfl⟩, ?_⟩; go_simp; refine hK _ ?_)
    | (refine ⟨_, fun d os => (nil_any _).mono fun e w' ⟨he, hx⟩ => ⟨_, he, hx, rfl⟩, ?_⟩; go_simp; refine hK _ ?_)); clear hK K)
  refine Lex.nil fun W hE => ?_
  obtain ⟨d4, os4, rfl⟩ := hE
  unfold FillH
  go_wp2_with (go_at_call 14; refine (awake_any _).mono ?_; rintro e _ ⟨rfl, d, os, rfl⟩)
  rw [ends_normal]
  go_wp2_with fail
  go_ret
  exact ⟨rfl, by repeat (first | exact Ext.refl _ | apply Ext.alloc | apply Ext.more)⟩

set_option maxHeartbeats 4000000 in
set_option maxRecDepth 100000 in
theorem vmays_1l (k i : Int) (s t : ByteArray) (k' i' : Int) (s' t' : ByteArray) (n o : Int) (w : World) (ho : True) (hs : 64 < (t.size : Int))
    (C0 : RowKit.Hid (∀ w, Calls Try.prog 10 #[.agg #[.int .i64 k, .int .i64 i, .string s]] w fun e w' => e = .returned (.agg #[.int .i64 k, .int .i64 i, .string t]) ∧ Ext w w')) (C0' : RowKit.Hid (∀ w, Calls Try.prog 10 #[.agg #[.int .i64 k', .int .i64 i', .string s']] w fun e w' => e = .returned (.agg #[.int .i64 k', .int .i64 i', .string t']) ∧ Ext w w'))
    (C1 : RowKit.Hid (∀ w, Calls Try.prog 15 #[.agg #[.int .i64 k, .int .i64 i, .string t]] w fun e w' => e = .returned (.bool true) ∧ Ext w w')) (C2 : RowKit.Hid (∀ w, Calls Try.prog 15 #[.agg #[.int .i64 k', .int .i64 i', .string t']] w fun e w' => e = .returned (.bool false) ∧ Ext w w'))
    (C3 : RowKit.Hid (∀ w, Calls Try.prog 16 #[.agg #[.int .i64 k, .int .i64 i, .string t], .agg #[.int .i64 k', .int .i64 i', .string t']] w fun e w' => e = .returned (.int .i64 o) ∧ Ext w w')) (C4 : RowKit.Hid (∀ w, Calls Try.prog 18 #[.agg #[.int .i64 k, .int .i64 i, .string t]] w fun e w' => e = .returned (.bool true) ∧ Ext w w'))
    (C6 : RowKit.Hid (∀ w, Calls Try.prog 19 #[.agg #[.int .i64 k, .int .i64 i, .string t], .agg #[.int .i64 k', .int .i64 i', .string t']] w fun e w' => e = .returned (.bool false) ∧ Ext w w')) (CT : RowKit.Hid (∀ w, Calls Try.prog 17 #[.string t] w fun e w' => e = .returned (.tuple #[.agg #[.int .i64 0, .int .i64 0, .string ⟨#[]⟩], .int .i64 5]) ∧ Ext w w')) :
    Calls Try.prog 4 #[.agg #[.int .i64 k, .int .i64 i, .string s], .agg #[.int .i64 k', .int .i64 i', .string s'], .int .i64 n] w fun e w' => e = .returned (.bool true) ∧ Ext w w' := by
  go_enter Try.func4, Try.ntmps4
  go_wp2_with fail
  refine wp_region_grow 3 88 [false, false, false] (by kernel_rfl) (by kernel_rfl) rfl ?_
  simp only [List.take_succ_cons, List.take_zero, List.drop_succ_cons, List.drop_zero]
  repeat (first
    | (refine Lex.step rfl ?_; intro K hK; unfold StepG; go_simp; refine hK _ ?_; clear hK K)
    | (refine Lex.step rfl ?_; intro K hK; unfold StepG; go_simp; refine ⟨_, fun d os => (C0.out _).mono fun e w' ⟨he, hx⟩ => ⟨_, he, hx, rfl⟩, ?_⟩; go_simp; refine hK _ ?_; clear hK K))
  refine Lex.nil fun W hE => ?_
  obtain ⟨d3, os3, rfl⟩ := hE
  unfold FillH
  go_wp2_with (go_at_call 10; refine (C0'.out _).mono ?_; rintro e _ ⟨rfl, d, os, rfl⟩)
  rw [ends_normal]
  go_wp2_with (first
    | (go_at_call 15; (first | with_reducible refine (C1.out _).mono ?_ | with_reducible refine (C2.out _).mono ?_); rintro e _ ⟨rfl, d, os, rfl⟩)
    | (go_at_call 16; refine (C3.out _).mono ?_; rintro e _ ⟨rfl, d, os, rfl⟩)
    | (go_at_call 17; refine (CT.out _).mono ?_; rintro e _ ⟨rfl, d, os, rfl⟩))
  refine wp_region_grow 31 88 (List.replicate 31 false) (by kernel_rfl) (by kernel_rfl) rfl ?_
  simp only [List.take_succ_cons, List.take_zero, List.drop_succ_cons, List.drop_zero, List.replicate_succ, List.replicate_zero]
  repeat (refine Lex.step rfl ?_; intro K hK; unfold StepG; go_simp; (first
    | refine hK _ ?_
    | (refine ⟨_, fun d os => (C4.out _).mono fun e w' ⟨he, hx⟩ => ⟨_, he, hx, rfl⟩, ?_⟩; go_simp; refine hK _ ?_)
    | (refine ⟨_, fun d os => (C1.out _).mono fun e w' ⟨he, hx⟩ => ⟨_, he, hx, rfl⟩, ?_⟩; go_simp; refine hK _ ?_)
    | (refine ⟨_, fun d os => (C6.out _).mono fun e w' ⟨he, hx⟩ => ⟨_, he, hx, rfl⟩, ?_⟩; go_simp; refine hK _ ?_)
    | (refine ⟨_, fun d os => (int_any _ _).mono fun e w' ⟨he, hx⟩ => ⟨_, he, hx, rfl⟩, ?_⟩; go_simp; refine hK _ ?_)
    | (refine ⟨_, fun d os => (rint_any _ _).mono fun e w' ⟨he, hx⟩ => ⟨_, he, hx, rfl⟩, ?_⟩; go_simp; refine hK _ ?_)
    | (refine ⟨_, fun d os => (bool_any _ _).mono fun e w' ⟨he, hx⟩ => ⟨_, he, hx, rfl⟩, ?_⟩; go_simp; refine hK _ ?_)
    | (refine ⟨_, fun d os => (rbool_any _ _).mono fun e w' ⟨he, hx⟩ => ⟨_, he, hx, rfl⟩, ?_⟩; go_simp; refine hK _ ?_)
    | (refine ⟨_, fun d os => (nil_any _).mono fun e w' ⟨he, hx⟩ => ⟨_, he, hx, rfl⟩, ?_⟩; go_simp; refine hK _ ?_)); clear hK K)
  refine Lex.nil fun W hE => ?_
  obtain ⟨d4, os4, rfl⟩ := hE
  unfold FillH
  go_wp2_with (go_at_call 14; refine (awake_any _).mono ?_; rintro e _ ⟨rfl, d, os, rfl⟩)
  rw [ends_normal]
  go_wp2_with fail
  go_ret
  exact ⟨rfl, by repeat (first | exact Ext.refl _ | apply Ext.alloc | apply Ext.more)⟩

set_option maxHeartbeats 4000000 in
set_option maxRecDepth 100000 in
theorem vmays_1s (k i : Int) (s t : ByteArray) (k' i' : Int) (s' t' : ByteArray) (n o : Int) (w : World) (ho : True) (hs : (t.size : Int) ≤ 64)
    (C0 : RowKit.Hid (∀ w, Calls Try.prog 10 #[.agg #[.int .i64 k, .int .i64 i, .string s]] w fun e w' => e = .returned (.agg #[.int .i64 k, .int .i64 i, .string t]) ∧ Ext w w')) (C0' : RowKit.Hid (∀ w, Calls Try.prog 10 #[.agg #[.int .i64 k', .int .i64 i', .string s']] w fun e w' => e = .returned (.agg #[.int .i64 k', .int .i64 i', .string t']) ∧ Ext w w'))
    (C1 : RowKit.Hid (∀ w, Calls Try.prog 15 #[.agg #[.int .i64 k, .int .i64 i, .string t]] w fun e w' => e = .returned (.bool true) ∧ Ext w w')) (C2 : RowKit.Hid (∀ w, Calls Try.prog 15 #[.agg #[.int .i64 k', .int .i64 i', .string t']] w fun e w' => e = .returned (.bool false) ∧ Ext w w'))
    (C3 : RowKit.Hid (∀ w, Calls Try.prog 16 #[.agg #[.int .i64 k, .int .i64 i, .string t], .agg #[.int .i64 k', .int .i64 i', .string t']] w fun e w' => e = .returned (.int .i64 o) ∧ Ext w w')) (C4 : RowKit.Hid (∀ w, Calls Try.prog 18 #[.agg #[.int .i64 k, .int .i64 i, .string t]] w fun e w' => e = .returned (.bool true) ∧ Ext w w'))
    (C6 : RowKit.Hid (∀ w, Calls Try.prog 19 #[.agg #[.int .i64 k, .int .i64 i, .string t], .agg #[.int .i64 k', .int .i64 i', .string t']] w fun e w' => e = .returned (.bool false) ∧ Ext w w')) (CT : RowKit.Hid (∀ w, Calls Try.prog 17 #[.string t] w fun e w' => e = .returned (.tuple #[.agg #[.int .i64 3, .int .i64 0, .string t], .int .i64 0]) ∧ Ext w w')) :
    Calls Try.prog 4 #[.agg #[.int .i64 k, .int .i64 i, .string s], .agg #[.int .i64 k', .int .i64 i', .string s'], .int .i64 n] w fun e w' => e = .returned (.bool true) ∧ Ext w w' := by
  go_enter Try.func4, Try.ntmps4
  go_wp2_with fail
  refine wp_region_grow 3 88 [false, false, false] (by kernel_rfl) (by kernel_rfl) rfl ?_
  simp only [List.take_succ_cons, List.take_zero, List.drop_succ_cons, List.drop_zero]
  repeat (first
    | (refine Lex.step rfl ?_; intro K hK; unfold StepG; go_simp; refine hK _ ?_; clear hK K)
    | (refine Lex.step rfl ?_; intro K hK; unfold StepG; go_simp; refine ⟨_, fun d os => (C0.out _).mono fun e w' ⟨he, hx⟩ => ⟨_, he, hx, rfl⟩, ?_⟩; go_simp; refine hK _ ?_; clear hK K))
  refine Lex.nil fun W hE => ?_
  obtain ⟨d3, os3, rfl⟩ := hE
  unfold FillH
  go_wp2_with (go_at_call 10; refine (C0'.out _).mono ?_; rintro e _ ⟨rfl, d, os, rfl⟩)
  rw [ends_normal]
  go_wp2_with (first
    | (go_at_call 15; (first | with_reducible refine (C1.out _).mono ?_ | with_reducible refine (C2.out _).mono ?_); rintro e _ ⟨rfl, d, os, rfl⟩)
    | (go_at_call 16; refine (C3.out _).mono ?_; rintro e _ ⟨rfl, d, os, rfl⟩)
    | (go_at_call 17; refine (CT.out _).mono ?_; rintro e _ ⟨rfl, d, os, rfl⟩))
  refine wp_region_grow 31 88 (List.replicate 31 false) (by kernel_rfl) (by kernel_rfl) rfl ?_
  simp only [List.take_succ_cons, List.take_zero, List.drop_succ_cons, List.drop_zero, List.replicate_succ, List.replicate_zero]
  repeat (refine Lex.step rfl ?_; intro K hK; unfold StepG; go_simp; (first
    | refine hK _ ?_
    | (refine ⟨_, fun d os => (C4.out _).mono fun e w' ⟨he, hx⟩ => ⟨_, he, hx, rfl⟩, ?_⟩; go_simp; refine hK _ ?_)
    | (refine ⟨_, fun d os => (C1.out _).mono fun e w' ⟨he, hx⟩ => ⟨_, he, hx, rfl⟩, ?_⟩; go_simp; refine hK _ ?_)
    | (refine ⟨_, fun d os => (C6.out _).mono fun e w' ⟨he, hx⟩ => ⟨_, he, hx, rfl⟩, ?_⟩; go_simp; refine hK _ ?_)
    | (refine ⟨_, fun d os => (int_any _ _).mono fun e w' ⟨he, hx⟩ => ⟨_, he, hx, rfl⟩, ?_⟩; go_simp; refine hK _ ?_)
    | (refine ⟨_, fun d os => (rint_any _ _).mono fun e w' ⟨he, hx⟩ => ⟨_, he, hx, rfl⟩, ?_⟩; go_simp; refine hK _ ?_)
    | (refine ⟨_, fun d os => (bool_any _ _).mono fun e w' ⟨he, hx⟩ => ⟨_, he, hx, rfl⟩, ?_⟩; go_simp; refine hK _ ?_)
    | (refine ⟨_, fun d os => (rbool_any _ _).mono fun e w' ⟨he, hx⟩ => ⟨_, he, hx, rfl⟩, ?_⟩; go_simp; refine hK _ ?_)
    | (refine ⟨_, fun d os => (nil_any _).mono fun e w' ⟨he, hx⟩ => ⟨_, he, hx, rfl⟩, ?_⟩; go_simp; refine hK _ ?_)); clear hK K)
  refine Lex.nil fun W hE => ?_
  obtain ⟨d4, os4, rfl⟩ := hE
  unfold FillH
  go_wp2_with (go_at_call 14; refine (awake_any _).mono ?_; rintro e _ ⟨rfl, d, os, rfl⟩)
  rw [ends_normal]
  go_wp2_with fail
  go_ret
  exact ⟨rfl, by repeat (first | exact Ext.refl _ | apply Ext.alloc | apply Ext.more)⟩

set_option maxHeartbeats 4000000 in
set_option maxRecDepth 100000 in
theorem vmays_2l (k i : Int) (s t : ByteArray) (k' i' : Int) (s' t' : ByteArray) (n o : Int) (w : World) (ho : o < 0) (hs : 64 < (t.size : Int))
    (C0 : RowKit.Hid (∀ w, Calls Try.prog 10 #[.agg #[.int .i64 k, .int .i64 i, .string s]] w fun e w' => e = .returned (.agg #[.int .i64 k, .int .i64 i, .string t]) ∧ Ext w w')) (C0' : RowKit.Hid (∀ w, Calls Try.prog 10 #[.agg #[.int .i64 k', .int .i64 i', .string s']] w fun e w' => e = .returned (.agg #[.int .i64 k', .int .i64 i', .string t']) ∧ Ext w w'))
    (C1 : RowKit.Hid (∀ w, Calls Try.prog 15 #[.agg #[.int .i64 k, .int .i64 i, .string t]] w fun e w' => e = .returned (.bool true) ∧ Ext w w')) (C2 : RowKit.Hid (∀ w, Calls Try.prog 15 #[.agg #[.int .i64 k', .int .i64 i', .string t']] w fun e w' => e = .returned (.bool true) ∧ Ext w w'))
    (C3 : RowKit.Hid (∀ w, Calls Try.prog 16 #[.agg #[.int .i64 k, .int .i64 i, .string t], .agg #[.int .i64 k', .int .i64 i', .string t']] w fun e w' => e = .returned (.int .i64 o) ∧ Ext w w')) (C4 : RowKit.Hid (∀ w, Calls Try.prog 18 #[.agg #[.int .i64 k, .int .i64 i, .string t]] w fun e w' => e = .returned (.bool true) ∧ Ext w w'))
    (C6 : RowKit.Hid (∀ w, Calls Try.prog 19 #[.agg #[.int .i64 k, .int .i64 i, .string t], .agg #[.int .i64 k', .int .i64 i', .string t']] w fun e w' => e = .returned (.bool true) ∧ Ext w w')) (CT : RowKit.Hid (∀ w, Calls Try.prog 17 #[.string t] w fun e w' => e = .returned (.tuple #[.agg #[.int .i64 0, .int .i64 0, .string ⟨#[]⟩], .int .i64 5]) ∧ Ext w w')) :
    Calls Try.prog 4 #[.agg #[.int .i64 k, .int .i64 i, .string s], .agg #[.int .i64 k', .int .i64 i', .string s'], .int .i64 n] w fun e w' => e = .returned (.bool true) ∧ Ext w w' := by
  go_enter Try.func4, Try.ntmps4
  go_wp2_with fail
  refine wp_region_grow 3 88 [false, false, false] (by kernel_rfl) (by kernel_rfl) rfl ?_
  simp only [List.take_succ_cons, List.take_zero, List.drop_succ_cons, List.drop_zero]
  repeat (first
    | (refine Lex.step rfl ?_; intro K hK; unfold StepG; go_simp; refine hK _ ?_; clear hK K)
    | (refine Lex.step rfl ?_; intro K hK; unfold StepG; go_simp; refine ⟨_, fun d os => (C0.out _).mono fun e w' ⟨he, hx⟩ => ⟨_, he, hx, rfl⟩, ?_⟩; go_simp; refine hK _ ?_; clear hK K))
  refine Lex.nil fun W hE => ?_
  obtain ⟨d3, os3, rfl⟩ := hE
  unfold FillH
  go_wp2_with (go_at_call 10; refine (C0'.out _).mono ?_; rintro e _ ⟨rfl, d, os, rfl⟩)
  rw [ends_normal]
  go_wp2_with (first
    | (go_at_call 15; (first | with_reducible refine (C1.out _).mono ?_ | with_reducible refine (C2.out _).mono ?_); rintro e _ ⟨rfl, d, os, rfl⟩)
    | (go_at_call 16; refine (C3.out _).mono ?_; rintro e _ ⟨rfl, d, os, rfl⟩)
    | (go_at_call 17; refine (CT.out _).mono ?_; rintro e _ ⟨rfl, d, os, rfl⟩))
  refine wp_region_grow 31 88 (List.replicate 31 false) (by kernel_rfl) (by kernel_rfl) rfl ?_
  simp only [List.take_succ_cons, List.take_zero, List.drop_succ_cons, List.drop_zero, List.replicate_succ, List.replicate_zero]
  repeat (refine Lex.step rfl ?_; intro K hK; unfold StepG; go_simp; (first
    | refine hK _ ?_
    | (refine ⟨_, fun d os => (C4.out _).mono fun e w' ⟨he, hx⟩ => ⟨_, he, hx, rfl⟩, ?_⟩; go_simp; refine hK _ ?_)
    | (refine ⟨_, fun d os => (C1.out _).mono fun e w' ⟨he, hx⟩ => ⟨_, he, hx, rfl⟩, ?_⟩; go_simp; refine hK _ ?_)
    | (refine ⟨_, fun d os => (C6.out _).mono fun e w' ⟨he, hx⟩ => ⟨_, he, hx, rfl⟩, ?_⟩; go_simp; refine hK _ ?_)
    | (refine ⟨_, fun d os => (int_any _ _).mono fun e w' ⟨he, hx⟩ => ⟨_, he, hx, rfl⟩, ?_⟩; go_simp; refine hK _ ?_)
    | (refine ⟨_, fun d os => (rint_any _ _).mono fun e w' ⟨he, hx⟩ => ⟨_, he, hx, rfl⟩, ?_⟩; go_simp; refine hK _ ?_)
    | (refine ⟨_, fun d os => (bool_any _ _).mono fun e w' ⟨he, hx⟩ => ⟨_, he, hx, rfl⟩, ?_⟩; go_simp; refine hK _ ?_)
    | (refine ⟨_, fun d os => (rbool_any _ _).mono fun e w' ⟨he, hx⟩ => ⟨_, he, hx, rfl⟩, ?_⟩; go_simp; refine hK _ ?_)
    | (refine ⟨_, fun d os => (nil_any _).mono fun e w' ⟨he, hx⟩ => ⟨_, he, hx, rfl⟩, ?_⟩; go_simp; refine hK _ ?_)); clear hK K)
  refine Lex.nil fun W hE => ?_
  obtain ⟨d4, os4, rfl⟩ := hE
  unfold FillH
  go_wp2_with (go_at_call 14; refine (awake_any _).mono ?_; rintro e _ ⟨rfl, d, os, rfl⟩)
  rw [ends_normal]
  go_wp2_with fail
  go_ret
  exact ⟨rfl, by repeat (first | exact Ext.refl _ | apply Ext.alloc | apply Ext.more)⟩

set_option maxHeartbeats 4000000 in
set_option maxRecDepth 100000 in
theorem vmays_2s (k i : Int) (s t : ByteArray) (k' i' : Int) (s' t' : ByteArray) (n o : Int) (w : World) (ho : o < 0) (hs : (t.size : Int) ≤ 64)
    (C0 : RowKit.Hid (∀ w, Calls Try.prog 10 #[.agg #[.int .i64 k, .int .i64 i, .string s]] w fun e w' => e = .returned (.agg #[.int .i64 k, .int .i64 i, .string t]) ∧ Ext w w')) (C0' : RowKit.Hid (∀ w, Calls Try.prog 10 #[.agg #[.int .i64 k', .int .i64 i', .string s']] w fun e w' => e = .returned (.agg #[.int .i64 k', .int .i64 i', .string t']) ∧ Ext w w'))
    (C1 : RowKit.Hid (∀ w, Calls Try.prog 15 #[.agg #[.int .i64 k, .int .i64 i, .string t]] w fun e w' => e = .returned (.bool true) ∧ Ext w w')) (C2 : RowKit.Hid (∀ w, Calls Try.prog 15 #[.agg #[.int .i64 k', .int .i64 i', .string t']] w fun e w' => e = .returned (.bool true) ∧ Ext w w'))
    (C3 : RowKit.Hid (∀ w, Calls Try.prog 16 #[.agg #[.int .i64 k, .int .i64 i, .string t], .agg #[.int .i64 k', .int .i64 i', .string t']] w fun e w' => e = .returned (.int .i64 o) ∧ Ext w w')) (C4 : RowKit.Hid (∀ w, Calls Try.prog 18 #[.agg #[.int .i64 k, .int .i64 i, .string t]] w fun e w' => e = .returned (.bool true) ∧ Ext w w'))
    (C6 : RowKit.Hid (∀ w, Calls Try.prog 19 #[.agg #[.int .i64 k, .int .i64 i, .string t], .agg #[.int .i64 k', .int .i64 i', .string t']] w fun e w' => e = .returned (.bool true) ∧ Ext w w')) (CT : RowKit.Hid (∀ w, Calls Try.prog 17 #[.string t] w fun e w' => e = .returned (.tuple #[.agg #[.int .i64 3, .int .i64 0, .string t], .int .i64 0]) ∧ Ext w w')) :
    Calls Try.prog 4 #[.agg #[.int .i64 k, .int .i64 i, .string s], .agg #[.int .i64 k', .int .i64 i', .string s'], .int .i64 n] w fun e w' => e = .returned (.bool true) ∧ Ext w w' := by
  go_enter Try.func4, Try.ntmps4
  go_wp2_with fail
  refine wp_region_grow 3 88 [false, false, false] (by kernel_rfl) (by kernel_rfl) rfl ?_
  simp only [List.take_succ_cons, List.take_zero, List.drop_succ_cons, List.drop_zero]
  repeat (first
    | (refine Lex.step rfl ?_; intro K hK; unfold StepG; go_simp; refine hK _ ?_; clear hK K)
    | (refine Lex.step rfl ?_; intro K hK; unfold StepG; go_simp; refine ⟨_, fun d os => (C0.out _).mono fun e w' ⟨he, hx⟩ => ⟨_, he, hx, rfl⟩, ?_⟩; go_simp; refine hK _ ?_; clear hK K))
  refine Lex.nil fun W hE => ?_
  obtain ⟨d3, os3, rfl⟩ := hE
  unfold FillH
  go_wp2_with (go_at_call 10; refine (C0'.out _).mono ?_; rintro e _ ⟨rfl, d, os, rfl⟩)
  rw [ends_normal]
  go_wp2_with (first
    | (go_at_call 15; (first | with_reducible refine (C1.out _).mono ?_ | with_reducible refine (C2.out _).mono ?_); rintro e _ ⟨rfl, d, os, rfl⟩)
    | (go_at_call 16; refine (C3.out _).mono ?_; rintro e _ ⟨rfl, d, os, rfl⟩)
    | (go_at_call 17; refine (CT.out _).mono ?_; rintro e _ ⟨rfl, d, os, rfl⟩))
  refine wp_region_grow 31 88 (List.replicate 31 false) (by kernel_rfl) (by kernel_rfl) rfl ?_
  simp only [List.take_succ_cons, List.take_zero, List.drop_succ_cons, List.drop_zero, List.replicate_succ, List.replicate_zero]
  repeat (refine Lex.step rfl ?_; intro K hK; unfold StepG; go_simp; (first
    | refine hK _ ?_
    | (refine ⟨_, fun d os => (C4.out _).mono fun e w' ⟨he, hx⟩ => ⟨_, he, hx, rfl⟩, ?_⟩; go_simp; refine hK _ ?_)
    | (refine ⟨_, fun d os => (C1.out _).mono fun e w' ⟨he, hx⟩ => ⟨_, he, hx, rfl⟩, ?_⟩; go_simp; refine hK _ ?_)
    | (refine ⟨_, fun d os => (C6.out _).mono fun e w' ⟨he, hx⟩ => ⟨_, he, hx, rfl⟩, ?_⟩; go_simp; refine hK _ ?_)
    | (refine ⟨_, fun d os => (int_any _ _).mono fun e w' ⟨he, hx⟩ => ⟨_, he, hx, rfl⟩, ?_⟩; go_simp; refine hK _ ?_)
    | (refine ⟨_, fun d os => (rint_any _ _).mono fun e w' ⟨he, hx⟩ => ⟨_, he, hx, rfl⟩, ?_⟩; go_simp; refine hK _ ?_)
    | (refine ⟨_, fun d os => (bool_any _ _).mono fun e w' ⟨he, hx⟩ => ⟨_, he, hx, rfl⟩, ?_⟩; go_simp; refine hK _ ?_)
    | (refine ⟨_, fun d os => (rbool_any _ _).mono fun e w' ⟨he, hx⟩ => ⟨_, he, hx, rfl⟩, ?_⟩; go_simp; refine hK _ ?_)
    | (refine ⟨_, fun d os => (nil_any _).mono fun e w' ⟨he, hx⟩ => ⟨_, he, hx, rfl⟩, ?_⟩; go_simp; refine hK _ ?_)); clear hK K)
  refine Lex.nil fun W hE => ?_
  obtain ⟨d4, os4, rfl⟩ := hE
  unfold FillH
  go_wp2_with (go_at_call 14; refine (awake_any _).mono ?_; rintro e _ ⟨rfl, d, os, rfl⟩)
  rw [ends_normal]
  go_wp2_with fail
  go_ret
  exact ⟨rfl, by repeat (first | exact Ext.refl _ | apply Ext.alloc | apply Ext.more)⟩

set_option maxHeartbeats 4000000 in
set_option maxRecDepth 100000 in
theorem vmays_3l (k i : Int) (s t : ByteArray) (k' i' : Int) (s' t' : ByteArray) (n o : Int) (w : World) (ho : o = 0) (hs : 64 < (t.size : Int))
    (C0 : RowKit.Hid (∀ w, Calls Try.prog 10 #[.agg #[.int .i64 k, .int .i64 i, .string s]] w fun e w' => e = .returned (.agg #[.int .i64 k, .int .i64 i, .string t]) ∧ Ext w w')) (C0' : RowKit.Hid (∀ w, Calls Try.prog 10 #[.agg #[.int .i64 k', .int .i64 i', .string s']] w fun e w' => e = .returned (.agg #[.int .i64 k', .int .i64 i', .string t']) ∧ Ext w w'))
    (C1 : RowKit.Hid (∀ w, Calls Try.prog 15 #[.agg #[.int .i64 k, .int .i64 i, .string t]] w fun e w' => e = .returned (.bool true) ∧ Ext w w')) (C2 : RowKit.Hid (∀ w, Calls Try.prog 15 #[.agg #[.int .i64 k', .int .i64 i', .string t']] w fun e w' => e = .returned (.bool true) ∧ Ext w w'))
    (C3 : RowKit.Hid (∀ w, Calls Try.prog 16 #[.agg #[.int .i64 k, .int .i64 i, .string t], .agg #[.int .i64 k', .int .i64 i', .string t']] w fun e w' => e = .returned (.int .i64 o) ∧ Ext w w')) (C4 : RowKit.Hid (∀ w, Calls Try.prog 18 #[.agg #[.int .i64 k, .int .i64 i, .string t]] w fun e w' => e = .returned (.bool true) ∧ Ext w w'))
    (C6 : RowKit.Hid (∀ w, Calls Try.prog 19 #[.agg #[.int .i64 k, .int .i64 i, .string t], .agg #[.int .i64 k', .int .i64 i', .string t']] w fun e w' => e = .returned (.bool false) ∧ Ext w w')) (CT : RowKit.Hid (∀ w, Calls Try.prog 17 #[.string t] w fun e w' => e = .returned (.tuple #[.agg #[.int .i64 0, .int .i64 0, .string ⟨#[]⟩], .int .i64 5]) ∧ Ext w w')) :
    Calls Try.prog 4 #[.agg #[.int .i64 k, .int .i64 i, .string s], .agg #[.int .i64 k', .int .i64 i', .string s'], .int .i64 n] w fun e w' => e = .returned (.bool true) ∧ Ext w w' := by
  subst ho
  go_enter Try.func4, Try.ntmps4
  go_wp2_with fail
  refine wp_region_grow 3 88 [false, false, false] (by kernel_rfl) (by kernel_rfl) rfl ?_
  simp only [List.take_succ_cons, List.take_zero, List.drop_succ_cons, List.drop_zero]
  repeat (first
    | (refine Lex.step rfl ?_; intro K hK; unfold StepG; go_simp; refine hK _ ?_; clear hK K)
    | (refine Lex.step rfl ?_; intro K hK; unfold StepG; go_simp; refine ⟨_, fun d os => (C0.out _).mono fun e w' ⟨he, hx⟩ => ⟨_, he, hx, rfl⟩, ?_⟩; go_simp; refine hK _ ?_; clear hK K))
  refine Lex.nil fun W hE => ?_
  obtain ⟨d3, os3, rfl⟩ := hE
  unfold FillH
  go_wp2_with (go_at_call 10; refine (C0'.out _).mono ?_; rintro e _ ⟨rfl, d, os, rfl⟩)
  rw [ends_normal]
  go_wp2_with (first
    | (go_at_call 15; (first | with_reducible refine (C1.out _).mono ?_ | with_reducible refine (C2.out _).mono ?_); rintro e _ ⟨rfl, d, os, rfl⟩)
    | (go_at_call 16; refine (C3.out _).mono ?_; rintro e _ ⟨rfl, d, os, rfl⟩)
    | (go_at_call 17; refine (CT.out _).mono ?_; rintro e _ ⟨rfl, d, os, rfl⟩))
  refine wp_region_grow 31 88 (List.replicate 31 false) (by kernel_rfl) (by kernel_rfl) rfl ?_
  simp only [List.take_succ_cons, List.take_zero, List.drop_succ_cons, List.drop_zero, List.replicate_succ, List.replicate_zero]
  repeat (refine Lex.step rfl ?_; intro K hK; unfold StepG; go_simp; (first
    | refine hK _ ?_
    | (refine ⟨_, fun d os => (C4.out _).mono fun e w' ⟨he, hx⟩ => ⟨_, he, hx, rfl⟩, ?_⟩; go_simp; refine hK _ ?_)
    | (refine ⟨_, fun d os => (C1.out _).mono fun e w' ⟨he, hx⟩ => ⟨_, he, hx, rfl⟩, ?_⟩; go_simp; refine hK _ ?_)
    | (refine ⟨_, fun d os => (C6.out _).mono fun e w' ⟨he, hx⟩ => ⟨_, he, hx, rfl⟩, ?_⟩; go_simp; refine hK _ ?_)
    | (refine ⟨_, fun d os => (int_any _ _).mono fun e w' ⟨he, hx⟩ => ⟨_, he, hx, rfl⟩, ?_⟩; go_simp; refine hK _ ?_)
    | (refine ⟨_, fun d os => (rint_any _ _).mono fun e w' ⟨he, hx⟩ => ⟨_, he, hx, rfl⟩, ?_⟩; go_simp; refine hK _ ?_)
    | (refine ⟨_, fun d os => (bool_any _ _).mono fun e w' ⟨he, hx⟩ => ⟨_, he, hx, rfl⟩, ?_⟩; go_simp; refine hK _ ?_)
    | (refine ⟨_, fun d os => (rbool_any _ _).mono fun e w' ⟨he, hx⟩ => ⟨_, he, hx, rfl⟩, ?_⟩; go_simp; refine hK _ ?_)
    | (refine ⟨_, fun d os => (nil_any _).mono fun e w' ⟨he, hx⟩ => ⟨_, he, hx, rfl⟩, ?_⟩; go_simp; refine hK _ ?_)); clear hK K)
  refine Lex.nil fun W hE => ?_
  obtain ⟨d4, os4, rfl⟩ := hE
  unfold FillH
  go_wp2_with (go_at_call 14; refine (awake_any _).mono ?_; rintro e _ ⟨rfl, d, os, rfl⟩)
  rw [ends_normal]
  go_wp2_with fail
  go_ret
  exact ⟨rfl, by repeat (first | exact Ext.refl _ | apply Ext.alloc | apply Ext.more)⟩

set_option maxHeartbeats 4000000 in
set_option maxRecDepth 100000 in
theorem vmays_3s (k i : Int) (s t : ByteArray) (k' i' : Int) (s' t' : ByteArray) (n o : Int) (w : World) (ho : o = 0) (hs : (t.size : Int) ≤ 64)
    (C0 : RowKit.Hid (∀ w, Calls Try.prog 10 #[.agg #[.int .i64 k, .int .i64 i, .string s]] w fun e w' => e = .returned (.agg #[.int .i64 k, .int .i64 i, .string t]) ∧ Ext w w')) (C0' : RowKit.Hid (∀ w, Calls Try.prog 10 #[.agg #[.int .i64 k', .int .i64 i', .string s']] w fun e w' => e = .returned (.agg #[.int .i64 k', .int .i64 i', .string t']) ∧ Ext w w'))
    (C1 : RowKit.Hid (∀ w, Calls Try.prog 15 #[.agg #[.int .i64 k, .int .i64 i, .string t]] w fun e w' => e = .returned (.bool true) ∧ Ext w w')) (C2 : RowKit.Hid (∀ w, Calls Try.prog 15 #[.agg #[.int .i64 k', .int .i64 i', .string t']] w fun e w' => e = .returned (.bool true) ∧ Ext w w'))
    (C3 : RowKit.Hid (∀ w, Calls Try.prog 16 #[.agg #[.int .i64 k, .int .i64 i, .string t], .agg #[.int .i64 k', .int .i64 i', .string t']] w fun e w' => e = .returned (.int .i64 o) ∧ Ext w w')) (C4 : RowKit.Hid (∀ w, Calls Try.prog 18 #[.agg #[.int .i64 k, .int .i64 i, .string t]] w fun e w' => e = .returned (.bool true) ∧ Ext w w'))
    (C6 : RowKit.Hid (∀ w, Calls Try.prog 19 #[.agg #[.int .i64 k, .int .i64 i, .string t], .agg #[.int .i64 k', .int .i64 i', .string t']] w fun e w' => e = .returned (.bool false) ∧ Ext w w')) (CT : RowKit.Hid (∀ w, Calls Try.prog 17 #[.string t] w fun e w' => e = .returned (.tuple #[.agg #[.int .i64 3, .int .i64 0, .string t], .int .i64 0]) ∧ Ext w w')) :
    Calls Try.prog 4 #[.agg #[.int .i64 k, .int .i64 i, .string s], .agg #[.int .i64 k', .int .i64 i', .string s'], .int .i64 n] w fun e w' => e = .returned (.bool true) ∧ Ext w w' := by
  subst ho
  go_enter Try.func4, Try.ntmps4
  go_wp2_with fail
  refine wp_region_grow 3 88 [false, false, false] (by kernel_rfl) (by kernel_rfl) rfl ?_
  simp only [List.take_succ_cons, List.take_zero, List.drop_succ_cons, List.drop_zero]
  repeat (first
    | (refine Lex.step rfl ?_; intro K hK; unfold StepG; go_simp; refine hK _ ?_; clear hK K)
    | (refine Lex.step rfl ?_; intro K hK; unfold StepG; go_simp; refine ⟨_, fun d os => (C0.out _).mono fun e w' ⟨he, hx⟩ => ⟨_, he, hx, rfl⟩, ?_⟩; go_simp; refine hK _ ?_; clear hK K))
  refine Lex.nil fun W hE => ?_
  obtain ⟨d3, os3, rfl⟩ := hE
  unfold FillH
  go_wp2_with (go_at_call 10; refine (C0'.out _).mono ?_; rintro e _ ⟨rfl, d, os, rfl⟩)
  rw [ends_normal]
  go_wp2_with (first
    | (go_at_call 15; (first | with_reducible refine (C1.out _).mono ?_ | with_reducible refine (C2.out _).mono ?_); rintro e _ ⟨rfl, d, os, rfl⟩)
    | (go_at_call 16; refine (C3.out _).mono ?_; rintro e _ ⟨rfl, d, os, rfl⟩)
    | (go_at_call 17; refine (CT.out _).mono ?_; rintro e _ ⟨rfl, d, os, rfl⟩))
  refine wp_region_grow 31 88 (List.replicate 31 false) (by kernel_rfl) (by kernel_rfl) rfl ?_
  simp only [List.take_succ_cons, List.take_zero, List.drop_succ_cons, List.drop_zero, List.replicate_succ, List.replicate_zero]
  repeat (refine Lex.step rfl ?_; intro K hK; unfold StepG; go_simp; (first
    | refine hK _ ?_
    | (refine ⟨_, fun d os => (C4.out _).mono fun e w' ⟨he, hx⟩ => ⟨_, he, hx, rfl⟩, ?_⟩; go_simp; refine hK _ ?_)
    | (refine ⟨_, fun d os => (C1.out _).mono fun e w' ⟨he, hx⟩ => ⟨_, he, hx, rfl⟩, ?_⟩; go_simp; refine hK _ ?_)
    | (refine ⟨_, fun d os => (C6.out _).mono fun e w' ⟨he, hx⟩ => ⟨_, he, hx, rfl⟩, ?_⟩; go_simp; refine hK _ ?_)
    | (refine ⟨_, fun d os => (int_any _ _).mono fun e w' ⟨he, hx⟩ => ⟨_, he, hx, rfl⟩, ?_⟩; go_simp; refine hK _ ?_)
    | (refine ⟨_, fun d os => (rint_any _ _).mono fun e w' ⟨he, hx⟩ => ⟨_, he, hx, rfl⟩, ?_⟩; go_simp; refine hK _ ?_)
    | (refine ⟨_, fun d os => (bool_any _ _).mono fun e w' ⟨he, hx⟩ => ⟨_, he, hx, rfl⟩, ?_⟩; go_simp; refine hK _ ?_)
    | (refine ⟨_, fun d os => (rbool_any _ _).mono fun e w' ⟨he, hx⟩ => ⟨_, he, hx, rfl⟩, ?_⟩; go_simp; refine hK _ ?_)
    | (refine ⟨_, fun d os => (nil_any _).mono fun e w' ⟨he, hx⟩ => ⟨_, he, hx, rfl⟩, ?_⟩; go_simp; refine hK _ ?_)); clear hK K)
  refine Lex.nil fun W hE => ?_
  obtain ⟨d4, os4, rfl⟩ := hE
  unfold FillH
  go_wp2_with (go_at_call 14; refine (awake_any _).mono ?_; rintro e _ ⟨rfl, d, os, rfl⟩)
  rw [ends_normal]
  go_wp2_with fail
  go_ret
  exact ⟨rfl, by repeat (first | exact Ext.refl _ | apply Ext.alloc | apply Ext.more)⟩

set_option maxHeartbeats 4000000 in
set_option maxRecDepth 100000 in
theorem vmays_4l (k i : Int) (s t : ByteArray) (k' i' : Int) (s' t' : ByteArray) (n o : Int) (w : World) (ho : o = 1) (hs : 64 < (t.size : Int))
    (C0 : RowKit.Hid (∀ w, Calls Try.prog 10 #[.agg #[.int .i64 k, .int .i64 i, .string s]] w fun e w' => e = .returned (.agg #[.int .i64 k, .int .i64 i, .string t]) ∧ Ext w w')) (C0' : RowKit.Hid (∀ w, Calls Try.prog 10 #[.agg #[.int .i64 k', .int .i64 i', .string s']] w fun e w' => e = .returned (.agg #[.int .i64 k', .int .i64 i', .string t']) ∧ Ext w w'))
    (C1 : RowKit.Hid (∀ w, Calls Try.prog 15 #[.agg #[.int .i64 k, .int .i64 i, .string t]] w fun e w' => e = .returned (.bool true) ∧ Ext w w')) (C2 : RowKit.Hid (∀ w, Calls Try.prog 15 #[.agg #[.int .i64 k', .int .i64 i', .string t']] w fun e w' => e = .returned (.bool true) ∧ Ext w w'))
    (C3 : RowKit.Hid (∀ w, Calls Try.prog 16 #[.agg #[.int .i64 k, .int .i64 i, .string t], .agg #[.int .i64 k', .int .i64 i', .string t']] w fun e w' => e = .returned (.int .i64 o) ∧ Ext w w')) (C4 : RowKit.Hid (∀ w, Calls Try.prog 18 #[.agg #[.int .i64 k, .int .i64 i, .string t]] w fun e w' => e = .returned (.bool true) ∧ Ext w w'))
    (C6 : RowKit.Hid (∀ w, Calls Try.prog 19 #[.agg #[.int .i64 k, .int .i64 i, .string t], .agg #[.int .i64 k', .int .i64 i', .string t']] w fun e w' => e = .returned (.bool false) ∧ Ext w w')) (CT : RowKit.Hid (∀ w, Calls Try.prog 17 #[.string t] w fun e w' => e = .returned (.tuple #[.agg #[.int .i64 0, .int .i64 0, .string ⟨#[]⟩], .int .i64 5]) ∧ Ext w w')) :
    Calls Try.prog 4 #[.agg #[.int .i64 k, .int .i64 i, .string s], .agg #[.int .i64 k', .int .i64 i', .string s'], .int .i64 n] w fun e w' => e = .returned (.bool true) ∧ Ext w w' := by
  subst ho
  go_enter Try.func4, Try.ntmps4
  go_wp2_with fail
  refine wp_region_grow 3 88 [false, false, false] (by kernel_rfl) (by kernel_rfl) rfl ?_
  simp only [List.take_succ_cons, List.take_zero, List.drop_succ_cons, List.drop_zero]
  repeat (first
    | (refine Lex.step rfl ?_; intro K hK; unfold StepG; go_simp; refine hK _ ?_; clear hK K)
    | (refine Lex.step rfl ?_; intro K hK; unfold StepG; go_simp; refine ⟨_, fun d os => (C0.out _).mono fun e w' ⟨he, hx⟩ => ⟨_, he, hx, rfl⟩, ?_⟩; go_simp; refine hK _ ?_; clear hK K))
  refine Lex.nil fun W hE => ?_
  obtain ⟨d3, os3, rfl⟩ := hE
  unfold FillH
  go_wp2_with (go_at_call 10; refine (C0'.out _).mono ?_; rintro e _ ⟨rfl, d, os, rfl⟩)
  rw [ends_normal]
  go_wp2_with (first
    | (go_at_call 15; (first | with_reducible refine (C1.out _).mono ?_ | with_reducible refine (C2.out _).mono ?_); rintro e _ ⟨rfl, d, os, rfl⟩)
    | (go_at_call 16; refine (C3.out _).mono ?_; rintro e _ ⟨rfl, d, os, rfl⟩)
    | (go_at_call 17; refine (CT.out _).mono ?_; rintro e _ ⟨rfl, d, os, rfl⟩))
  refine wp_region_grow 31 88 (List.replicate 31 false) (by kernel_rfl) (by kernel_rfl) rfl ?_
  simp only [List.take_succ_cons, List.take_zero, List.drop_succ_cons, List.drop_zero, List.replicate_succ, List.replicate_zero]
  repeat (refine Lex.step rfl ?_; intro K hK; unfold StepG; go_simp; (first
    | refine hK _ ?_
    | (refine ⟨_, fun d os => (C4.out _).mono fun e w' ⟨he, hx⟩ => ⟨_, he, hx, rfl⟩, ?_⟩; go_simp; refine hK _ ?_)
    | (refine ⟨_, fun d os => (C1.out _).mono fun e w' ⟨he, hx⟩ => ⟨_, he, hx, rfl⟩, ?_⟩; go_simp; refine hK _ ?_)
    | (refine ⟨_, fun d os => (C6.out _).mono fun e w' ⟨he, hx⟩ => ⟨_, he, hx, rfl⟩, ?_⟩; go_simp; refine hK _ ?_)
    | (refine ⟨_, fun d os => (int_any _ _).mono fun e w' ⟨he, hx⟩ => ⟨_, he, hx, rfl⟩, ?_⟩; go_simp; refine hK _ ?_)
    | (refine ⟨_, fun d os => (rint_any _ _).mono fun e w' ⟨he, hx⟩ => ⟨_, he, hx, rfl⟩, ?_⟩; go_simp; refine hK _ ?_)
    | (refine ⟨_, fun d os => (bool_any _ _).mono fun e w' ⟨he, hx⟩ => ⟨_, he, hx, rfl⟩, ?_⟩; go_simp; refine hK _ ?_)
    | (refine ⟨_, fun d os => (rbool_any _ _).mono fun e w' ⟨he, hx⟩ => ⟨_, he, hx, rfl⟩, ?_⟩; go_simp; refine hK _ ?_)
    | (refine ⟨_, fun d os => (nil_any _).mono fun e w' ⟨he, hx⟩ => ⟨_, he, hx, rfl⟩, ?_⟩; go_simp; refine hK _ ?_)); clear hK K)
  refine Lex.nil fun W hE => ?_
  obtain ⟨d4, os4, rfl⟩ := hE
  unfold FillH
  go_wp2_with (go_at_call 14; refine (awake_any _).mono ?_; rintro e _ ⟨rfl, d, os, rfl⟩)
  rw [ends_normal]
  go_wp2_with fail
  go_ret
  exact ⟨rfl, by repeat (first | exact Ext.refl _ | apply Ext.alloc | apply Ext.more)⟩

set_option maxHeartbeats 4000000 in
set_option maxRecDepth 100000 in
theorem vmays_4s (k i : Int) (s t : ByteArray) (k' i' : Int) (s' t' : ByteArray) (n o : Int) (w : World) (ho : o = 1) (hs : (t.size : Int) ≤ 64)
    (C0 : RowKit.Hid (∀ w, Calls Try.prog 10 #[.agg #[.int .i64 k, .int .i64 i, .string s]] w fun e w' => e = .returned (.agg #[.int .i64 k, .int .i64 i, .string t]) ∧ Ext w w')) (C0' : RowKit.Hid (∀ w, Calls Try.prog 10 #[.agg #[.int .i64 k', .int .i64 i', .string s']] w fun e w' => e = .returned (.agg #[.int .i64 k', .int .i64 i', .string t']) ∧ Ext w w'))
    (C1 : RowKit.Hid (∀ w, Calls Try.prog 15 #[.agg #[.int .i64 k, .int .i64 i, .string t]] w fun e w' => e = .returned (.bool true) ∧ Ext w w')) (C2 : RowKit.Hid (∀ w, Calls Try.prog 15 #[.agg #[.int .i64 k', .int .i64 i', .string t']] w fun e w' => e = .returned (.bool true) ∧ Ext w w'))
    (C3 : RowKit.Hid (∀ w, Calls Try.prog 16 #[.agg #[.int .i64 k, .int .i64 i, .string t], .agg #[.int .i64 k', .int .i64 i', .string t']] w fun e w' => e = .returned (.int .i64 o) ∧ Ext w w')) (C4 : RowKit.Hid (∀ w, Calls Try.prog 18 #[.agg #[.int .i64 k, .int .i64 i, .string t]] w fun e w' => e = .returned (.bool true) ∧ Ext w w'))
    (C6 : RowKit.Hid (∀ w, Calls Try.prog 19 #[.agg #[.int .i64 k, .int .i64 i, .string t], .agg #[.int .i64 k', .int .i64 i', .string t']] w fun e w' => e = .returned (.bool false) ∧ Ext w w')) (CT : RowKit.Hid (∀ w, Calls Try.prog 17 #[.string t] w fun e w' => e = .returned (.tuple #[.agg #[.int .i64 3, .int .i64 0, .string t], .int .i64 0]) ∧ Ext w w')) :
    Calls Try.prog 4 #[.agg #[.int .i64 k, .int .i64 i, .string s], .agg #[.int .i64 k', .int .i64 i', .string s'], .int .i64 n] w fun e w' => e = .returned (.bool true) ∧ Ext w w' := by
  subst ho
  go_enter Try.func4, Try.ntmps4
  go_wp2_with fail
  refine wp_region_grow 3 88 [false, false, false] (by kernel_rfl) (by kernel_rfl) rfl ?_
  simp only [List.take_succ_cons, List.take_zero, List.drop_succ_cons, List.drop_zero]
  repeat (first
    | (refine Lex.step rfl ?_; intro K hK; unfold StepG; go_simp; refine hK _ ?_; clear hK K)
    | (refine Lex.step rfl ?_; intro K hK; unfold StepG; go_simp; refine ⟨_, fun d os => (C0.out _).mono fun e w' ⟨he, hx⟩ => ⟨_, he, hx, rfl⟩, ?_⟩; go_simp; refine hK _ ?_; clear hK K))
  refine Lex.nil fun W hE => ?_
  obtain ⟨d3, os3, rfl⟩ := hE
  unfold FillH
  go_wp2_with (go_at_call 10; refine (C0'.out _).mono ?_; rintro e _ ⟨rfl, d, os, rfl⟩)
  rw [ends_normal]
  go_wp2_with (first
    | (go_at_call 15; (first | with_reducible refine (C1.out _).mono ?_ | with_reducible refine (C2.out _).mono ?_); rintro e _ ⟨rfl, d, os, rfl⟩)
    | (go_at_call 16; refine (C3.out _).mono ?_; rintro e _ ⟨rfl, d, os, rfl⟩)
    | (go_at_call 17; refine (CT.out _).mono ?_; rintro e _ ⟨rfl, d, os, rfl⟩))
  refine wp_region_grow 31 88 (List.replicate 31 false) (by kernel_rfl) (by kernel_rfl) rfl ?_
  simp only [List.take_succ_cons, List.take_zero, List.drop_succ_cons, List.drop_zero, List.replicate_succ, List.replicate_zero]
  repeat (refine Lex.step rfl ?_; intro K hK; unfold StepG; go_simp; (first
    | refine hK _ ?_
    | (refine ⟨_, fun d os => (C4.out _).mono fun e w' ⟨he, hx⟩ => ⟨_, he, hx, rfl⟩, ?_⟩; go_simp; refine hK _ ?_)
    | (refine ⟨_, fun d os => (C1.out _).mono fun e w' ⟨he, hx⟩ => ⟨_, he, hx, rfl⟩, ?_⟩; go_simp; refine hK _ ?_)
    | (refine ⟨_, fun d os => (C6.out _).mono fun e w' ⟨he, hx⟩ => ⟨_, he, hx, rfl⟩, ?_⟩; go_simp; refine hK _ ?_)
    | (refine ⟨_, fun d os => (int_any _ _).mono fun e w' ⟨he, hx⟩ => ⟨_, he, hx, rfl⟩, ?_⟩; go_simp; refine hK _ ?_)
    | (refine ⟨_, fun d os => (rint_any _ _).mono fun e w' ⟨he, hx⟩ => ⟨_, he, hx, rfl⟩, ?_⟩; go_simp; refine hK _ ?_)
    | (refine ⟨_, fun d os => (bool_any _ _).mono fun e w' ⟨he, hx⟩ => ⟨_, he, hx, rfl⟩, ?_⟩; go_simp; refine hK _ ?_)
    | (refine ⟨_, fun d os => (rbool_any _ _).mono fun e w' ⟨he, hx⟩ => ⟨_, he, hx, rfl⟩, ?_⟩; go_simp; refine hK _ ?_)
    | (refine ⟨_, fun d os => (nil_any _).mono fun e w' ⟨he, hx⟩ => ⟨_, he, hx, rfl⟩, ?_⟩; go_simp; refine hK _ ?_)); clear hK K)
  refine Lex.nil fun W hE => ?_
  obtain ⟨d4, os4, rfl⟩ := hE
  unfold FillH
  go_wp2_with (go_at_call 14; refine (awake_any _).mono ?_; rintro e _ ⟨rfl, d, os, rfl⟩)
  rw [ends_normal]
  go_wp2_with fail
  go_ret
  exact ⟨rfl, by repeat (first | exact Ext.refl _ | apply Ext.alloc | apply Ext.more)⟩

theorem vmays_walk (k i : Int) (s : ByteArray) (k' i' : Int) (s' : ByteArray) (n : Int) (w : World) :
    Calls Try.prog 4 #[.agg #[.int .i64 k, .int .i64 i, .string s], .agg #[.int .i64 k', .int .i64 i', .string s'], .int .i64 n] w fun e w' => e = .returned (.bool true) ∧ Ext w w' := by
  have c0 := fun w => few_any k i s w
  have c0' := fun w => few_any k' i' s' w
  generalize fewS s = t at c0
  generalize fewS s' = t' at c0'
  have c1 := fun w => rmay_any k i t w
  have c2 := fun w => rmay_any k' i' t' w
  have c3 := fun w => rorder_any k i t k' i' t' w
  have c4 := fun w => vmay_any k i t w
  have c5 := fun w => less_any k i t k' i' t' w
  rw [less_order] at c5
  generalize mayB k i t = p at c1 c4 c5
  generalize mayB k' i' t' = q at c2 c5
  have hrange := rorder_range k i t k' i' t'
  generalize rorderZ k i t k' i' t' = o at c3 c5 hrange
  have hs : 64 < (t.size : Int) ∨ (t.size : Int) ≤ 64 := by omega
  cases p
  · rw [Bool.false_and] at c5
    rcases hs with hs | hs
    · exact vmays_0l k i s t k' i' s' t' n o q w trivial hs (Lib.hid c0) (Lib.hid c0') (Lib.hid c1) (Lib.hid c2) (Lib.hid c3) (Lib.hid c4) (Lib.hid c5) (Lib.hid (text_full t hs))
    · exact vmays_0s k i s t k' i' s' t' n o q w trivial hs (Lib.hid c0) (Lib.hid c0') (Lib.hid c1) (Lib.hid c2) (Lib.hid c3) (Lib.hid c4) (Lib.hid c5) (Lib.hid (text_ok t hs))
  · cases q
    · rw [Bool.true_and, Bool.false_and] at c5
      rcases hs with hs | hs
      · exact vmays_1l k i s t k' i' s' t' n o w trivial hs (Lib.hid c0) (Lib.hid c0') (Lib.hid c1) (Lib.hid c2) (Lib.hid c3) (Lib.hid c4) (Lib.hid c5) (Lib.hid (text_full t hs))
      · exact vmays_1s k i s t k' i' s' t' n o w trivial hs (Lib.hid c0) (Lib.hid c0') (Lib.hid c1) (Lib.hid c2) (Lib.hid c3) (Lib.hid c4) (Lib.hid c5) (Lib.hid (text_ok t hs))
    · rw [Bool.true_and, Bool.true_and] at c5
      by_cases ho : o < 0
      · rw [decide_eq_true ho] at c5
        rcases hs with hs | hs
        · exact vmays_2l k i s t k' i' s' t' n o w ho hs (Lib.hid c0) (Lib.hid c0') (Lib.hid c1) (Lib.hid c2) (Lib.hid c3) (Lib.hid c4) (Lib.hid c5) (Lib.hid (text_full t hs))
        · exact vmays_2s k i s t k' i' s' t' n o w ho hs (Lib.hid c0) (Lib.hid c0') (Lib.hid c1) (Lib.hid c2) (Lib.hid c3) (Lib.hid c4) (Lib.hid c5) (Lib.hid (text_ok t hs))
      · rw [decide_eq_false ho] at c5
        have hr : o = 0 ∨ o = 1 := by omega
        rcases hr with hr | hr <;> rcases hs with hs | hs
        · exact vmays_3l k i s t k' i' s' t' n o w hr hs (Lib.hid c0) (Lib.hid c0') (Lib.hid c1) (Lib.hid c2) (Lib.hid c3) (Lib.hid c4) (Lib.hid c5) (Lib.hid (text_full t hs))
        · exact vmays_3s k i s t k' i' s' t' n o w hr hs (Lib.hid c0) (Lib.hid c0') (Lib.hid c1) (Lib.hid c2) (Lib.hid c3) (Lib.hid c4) (Lib.hid c5) (Lib.hid (text_ok t hs))
        · exact vmays_4l k i s t k' i' s' t' n o w hr hs (Lib.hid c0) (Lib.hid c0') (Lib.hid c1) (Lib.hid c2) (Lib.hid c3) (Lib.hid c4) (Lib.hid c5) (Lib.hid (text_full t hs))
        · exact vmays_4s k i s t k' i' s' t' n o w hr hs (Lib.hid c0) (Lib.hid c0') (Lib.hid c1) (Lib.hid c2) (Lib.hid c3) (Lib.hid c4) (Lib.hid c5) (Lib.hid (text_ok t hs))

namespace ValueMaysRow
/-! ### The row -/
section
open Go.ChangeShapes Go.WideShapes Go.ChangeAt Go.RowKit Go.Joins
open Go.ChangeMaps (open_string shut_string)
theorem own : ownKnob Try.prog.godebug = none := by kernel_rfl
theorem valueCells : Try.prog.cellsOf 23 = 3 := by kernel_rfl

set_option maxRecDepth 100000 in
theorem lifted (os : Os) (started : os.Started) (H : Type) (enc : TypeId × Value → H) :
    ReturnsInHanded {} Try.checked os 4 .any (Rows.valueMaysSpec.pre6 enc Try.prog Try.f4 Rows.valueMaysRow.domain false) (Rows.valueMaysSpec.post enc Try.prog Try.f4 false true false false) := by
  refine returnsInHanded_of_change (C := Try.checked) own started (by kernel_rfl) Try.func4
    (ChangeSpec.witness6 (enc := enc) (C := Try.checked) false ⟨#[], #[.agg #[.int .i64 0, .int .i64 0, .string ⟨#[]⟩], .agg #[.int .i64 0, .int .i64 0, .string ⟨#[]⟩], .int .i64 0], []⟩ 8 (by kernel_rfl) (by kernel_rfl) (by kernel_rfl) (by kernel_rfl)) ?_
  intro W base args ds gs before hval0 hW hcnd _
  have hval : ∀ (j : Nat) t v, Try.f4.params[j]? = some t → args[j]? = some v → Value.okWide Try.prog W .any base t v := hval0
  have hW' := hW
  obtain ⟨p, q, hA0, hV, rfl, hfz, hnd⟩ := hW
  have hA : DataW.TrodAll enc Try.prog W 0 (fun _ => true) true Try.f4.params.toList args.toList ds p := hA0
  rw [Try.params4] at hA hval
  obtain ⟨v0, vs0, d0, ds0, p0, q0, hargs, rfl, rfl, h0, r0⟩ := trodAll_cons hA
  obtain ⟨v1, vs1, d1, ds1, p1, q1, rfl, rfl, rfl, h1, r1⟩ := trodAll_cons r0
  obtain ⟨v2, vs2, d2, ds2, p2, q2, rfl, rfl, rfl, h2, r2⟩ := trodAll_cons r1
  obtain ⟨rfl, rfl, rfl⟩ := trodAll_nil r2
  obtain rfl : args = #[v0, v1, v2] := by cases args; simp_all
  obtain ⟨rfl, rfl⟩ := trodVars_none hV
  obtain ⟨c00, c01, c02, y00, y01, y02, m0, rfl, rfl, rfl, hy00, hy01, hy02⟩ := open_agg3 Try.underlying23 (by kernel_rfl) valueCells (hval 0 23 v0 rfl rfl) h0
  obtain ⟨a_k, e00, rfl, wa_k⟩ := DataW.trod_int Try.underlying3 hy00
  obtain ⟨a_i, e01, rfl, wa_i⟩ := DataW.trod_int Try.underlying2 hy01
  obtain ⟨a_s, e02, rfl, wa_s⟩ := DataW.trod_string Try.underlying9 hy02
  simp at e00 e01 e02
  subst e00 e01 e02
  obtain ⟨c10, c11, c12, y10, y11, y12, m1, rfl, rfl, rfl, hy10, hy11, hy12⟩ := open_agg3 Try.underlying23 (by kernel_rfl) valueCells (hval 1 23 v1 rfl rfl) h1
  obtain ⟨b_k, e10, rfl, wb_k⟩ := DataW.trod_int Try.underlying3 hy10
  obtain ⟨b_i, e11, rfl, wb_i⟩ := DataW.trod_int Try.underlying2 hy11
  obtain ⟨b_s, e12, rfl, wb_s⟩ := DataW.trod_string Try.underlying9 hy12
  simp at e10 e11 e12
  subst e10 e11 e12
  obtain ⟨n, rfl, rfl, rfl, wn⟩ := open_int Try.underlying2 (hval 2 2 v2 rfl rfl) h2
  clear hA0 hval0
  simp only [List.append_nil] at hW'
  refine (vmays_walk a_k a_i a_s b_k b_i b_s n W).mono fun e W' ⟨he, hx⟩ => ?_
  subst he
  exact ⟨_, rfl, _, _, _, [], [], [], hW', trodAll_mk1 (shut_bool Try.underlying4 _), (trodAll_cons_mk (shut_agg3 (y0 := (.lit (.int .i64 a_k), [])) (y1 := (.lit (.int .i64 a_i), [])) (y2 := (.lit (.string a_s.data.toList), [])) Try.underlying23 (by kernel_rfl) valueCells ⟨1, by simp [DataW.trod, Try.underlying3, wa_k]⟩ ⟨1, by simp [DataW.trod, Try.underlying2, wa_i]⟩ ⟨1, by simp [DataW.trod, Try.underlying9, wa_s]⟩) (trodAll_cons_mk (shut_agg3 (y0 := (.lit (.int .i64 b_k), [])) (y1 := (.lit (.int .i64 b_i), [])) (y2 := (.lit (.string b_s.data.toList), [])) Try.underlying23 (by kernel_rfl) valueCells ⟨1, by simp [DataW.trod, Try.underlying3, wb_k]⟩ ⟨1, by simp [DataW.trod, Try.underlying2, wb_i]⟩ ⟨1, by simp [DataW.trod, Try.underlying9, wb_s]⟩) (trodAll_cons_mk (shut_int Try.underlying2 wn) trodAll_mk0))), rfl, hx.below.frame _, fun h => by cases h⟩

theorem proved : Rows.ValueMaysSaid :=
  OpenClaim.holds_of_wide 4 Try.f4 rfl rfl rfl rfl rfl rfl rfl ⟨rfl, rfl, rfl, rfl, rfl⟩ rfl rfl rfl rfl rfl (by kernel_rfl) Try.func4 (by kernel_rfl)
    (of_decide_eq_true (by kernel_rfl)) (by unfold Func.isWrapper; first | (rw [if_pos (by decide +kernel)]; kernel_rfl) | (rw [if_neg (by decide +kernel)]; exact ⟨rfl, rfl⟩))
    (fun os started H enc _ => lifted os started H enc)
end
#print axioms proved
end ValueMaysRow
end Go.Proofs.Ythekfgbiplmikaa
